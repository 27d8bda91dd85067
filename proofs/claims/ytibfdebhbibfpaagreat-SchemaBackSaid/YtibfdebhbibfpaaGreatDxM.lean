/- Contracts: Parts, Is by the reference; SchemaParts. -/
import Derived.Test.YtibfdebhbibfpaaGreatDxL
set_option linter.unusedVariables false
set_option linter.unusedSimpArgs false
namespace Go.Proofs.YtibfdebhbibfpaaGreat.Ax
open Go Go.Proofs

theorem okY_kd {e : Ex} (h : okY e) (n : Nat) : okY (kd e n) := by
  by_cases c : n < e.kids.length
  · have hk : kd e n = e.kids[n] := by unfold kd; simp [List.getD_eq_getElem?_getD, c]
    rw [hk]
    rcases h with h | rfl
    · exact .inl (allX_kid h n c)
    · simp [ex0] at c
  · exact .inr (kd_none (by omega))
def gsV (k : Int) (e : Ex) : V := .agg [.sl (encL (gs k e).1) .no, .int .i64 (gs k e).2]
set_option maxHeartbeats 2000000 in
theorem ok_gs1 {e : Ex} (ha : allX e = true) : Okat Tryz.prog 55 [.int .i64 1, enc e] (gsV 1 e) := by
  have hE := ((EnvOk.nil (P := Tryz.prog) (eq := fun _ => false) (own := fun _ => false) (mem := fun _ => false) EqOk.none).addf ok_rKid)
  refine ⟨⟨Tryz.f55, Tryz.func55, by decide, rfl⟩, pure_of_T Tryz.func55 rfl (by simp [Tryz.ntmps55]) fun q => ?_⟩
  have hr1 : List.range 1 = [0] := rfl
  have hr2 : List.range 2 = [0, 1] := rfl
  have hr3 : List.range 3 = [0, 1, 2] := rfl
  have hr4 : List.range 4 = [0, 1, 2, 3] := rfl
  have hd0 : decI .i64 [[.int .i64 0]] = some [0] := rfl
  have hp0 : okPs [0] := ⟨by simp, fun p hp => by simp at hp; omega⟩
  have hk0 : kdP e [0] = kd e 0 := rfl
  have hd1 : decI .i64 [[.int .i64 1], [.int .i64 0]] = some [1, 0] := rfl
  have hp1 : okPs [1, 0] := ⟨by simp, fun p hp => by simp at hp; omega⟩
  have hk1 : kdP e [1, 0] = kd (kd e 1) 0 := rfl
  have hv : Hold (gsV 1 e = .agg [.sl (encL [kd e 0, kd (kd e 1) 0]) .no, .int .i64 0]) := by unfold Hold gsV gs; simp
  repeat' (first | (with_reducible refine T.sq fun K hK => ?_) | ((first | ((with_reducible refine T.reg hE ?hd ?_); (case hd => kernel_rfl)) | ((with_reducible refine T.any hE mixed ?hd ?hok ?_); (case hd => kernel_rfl); (case hok => kernel_rfl))); simp [*]; (repeat' (split; all_goals (rename_i hc; try simp [*])))) | ((with_reducible refine T.ret ?_); refine fin_pure ?_; simp [*]; try (change Hold _)) | (with_reducible refine T.block ?_) | ((with_reducible refine T.skip ?_); simp [*]) | ((with_reducible refine T.exit ?_); simp [*]) | ((with_reducible refine T.br fun K1 K2 hK1 hK2 => ?_); simp [*]; try ((refine Br.intro (fun hc => ?_) (fun hc => ?_)) <;> (try simp at hc))) | (with_reducible refine Cont.go (by assumption) _ ?_) | (with_reducible refine Cnt.go (by assumption) ?_))
  all_goals (unfold Hold at *; rw [hv]; try simp)

set_option maxHeartbeats 2000000 in
theorem ok_gs2 {e : Ex} (ha : allX e = true) : Okat Tryz.prog 55 [.int .i64 2, enc e] (gsV 2 e) := by
  have hE := ((EnvOk.nil (P := Tryz.prog) (eq := fun _ => false) (own := fun _ => false) (mem := fun _ => false) EqOk.none).addf ok_rKid)
  refine ⟨⟨Tryz.f55, Tryz.func55, by decide, rfl⟩, pure_of_T Tryz.func55 rfl (by simp [Tryz.ntmps55]) fun q => ?_⟩
  have hr1 : List.range 1 = [0] := rfl
  have hr2 : List.range 2 = [0, 1] := rfl
  have hr3 : List.range 3 = [0, 1, 2] := rfl
  have hr4 : List.range 4 = [0, 1, 2, 3] := rfl
  have hd0 : decI .i64 [[.int .i64 0], [.int .i64 0]] = some [0, 0] := rfl
  have hp0 : okPs [0, 0] := ⟨by simp, fun p hp => by simp at hp; omega⟩
  have hk0 : kdP e [0, 0] = kd (kd e 0) 0 := rfl
  have hd1 : decI .i64 [[.int .i64 0], [.int .i64 1], [.int .i64 0]] = some [0, 1, 0] := rfl
  have hp1 : okPs [0, 1, 0] := ⟨by simp, fun p hp => by simp at hp; omega⟩
  have hk1 : kdP e [0, 1, 0] = kd (kd (kd e 0) 1) 0 := rfl
  have hd2 : decI .i64 [[.int .i64 0], [.int .i64 1], [.int .i64 1]] = some [0, 1, 1] := rfl
  have hp2 : okPs [0, 1, 1] := ⟨by simp, fun p hp => by simp at hp; omega⟩
  have hk2 : kdP e [0, 1, 1] = kd (kd (kd e 0) 1) 1 := rfl
  have hv : Hold (gsV 2 e = .agg [.sl (encL [kd (kd e 0) 0, kd (kd (kd e 0) 1) 0, kd (kd (kd e 0) 1) 1]) .no, .int .i64 0]) := by unfold Hold gsV gs; simp
  repeat' (first | (with_reducible refine T.sq fun K hK => ?_) | ((first | ((with_reducible refine T.reg hE ?hd ?_); (case hd => kernel_rfl)) | ((with_reducible refine T.any hE mixed ?hd ?hok ?_); (case hd => kernel_rfl); (case hok => kernel_rfl))); simp [*]; (repeat' (split; all_goals (rename_i hc; try simp [*])))) | ((with_reducible refine T.ret ?_); refine fin_pure ?_; simp [*]; try (change Hold _)) | (with_reducible refine T.block ?_) | ((with_reducible refine T.skip ?_); simp [*]) | ((with_reducible refine T.exit ?_); simp [*]) | ((with_reducible refine T.br fun K1 K2 hK1 hK2 => ?_); simp [*]; try ((refine Br.intro (fun hc => ?_) (fun hc => ?_)) <;> (try simp at hc))) | (with_reducible refine Cont.go (by assumption) _ ?_) | (with_reducible refine Cnt.go (by assumption) ?_))
  all_goals (unfold Hold at *; rw [hv]; try simp)

set_option maxHeartbeats 2000000 in
theorem ok_gs3 {e : Ex} (ha : allX e = true) : Okat Tryz.prog 55 [.int .i64 3, enc e] (gsV 3 e) := by
  have hE := ((EnvOk.nil (P := Tryz.prog) (eq := fun _ => false) (own := fun _ => false) (mem := fun _ => false) EqOk.none).addf ok_rKid)
  refine ⟨⟨Tryz.f55, Tryz.func55, by decide, rfl⟩, pure_of_T Tryz.func55 rfl (by simp [Tryz.ntmps55]) fun q => ?_⟩
  have hr1 : List.range 1 = [0] := rfl
  have hr2 : List.range 2 = [0, 1] := rfl
  have hr3 : List.range 3 = [0, 1, 2] := rfl
  have hr4 : List.range 4 = [0, 1, 2, 3] := rfl
  have hd0 : decI .i64 [[.int .i64 1], [.int .i64 1]] = some [1, 1] := rfl
  have hp0 : okPs [1, 1] := ⟨by simp, fun p hp => by simp at hp; omega⟩
  have hk0 : kdP e [1, 1] = kd (kd e 1) 1 := rfl
  have hd1 : decI .i64 [[.int .i64 1], [.int .i64 0]] = some [1, 0] := rfl
  have hp1 : okPs [1, 0] := ⟨by simp, fun p hp => by simp at hp; omega⟩
  have hk1 : kdP e [1, 0] = kd (kd e 1) 0 := rfl
  have hv : Hold (gsV 3 e = .agg [.sl (encL [kd (kd e 1) 1, kd (kd e 1) 0]) .no, .int .i64 0]) := by unfold Hold gsV gs; simp
  repeat' (first | (with_reducible refine T.sq fun K hK => ?_) | ((first | ((with_reducible refine T.reg hE ?hd ?_); (case hd => kernel_rfl)) | ((with_reducible refine T.any hE mixed ?hd ?hok ?_); (case hd => kernel_rfl); (case hok => kernel_rfl))); simp [*]; (repeat' (split; all_goals (rename_i hc; try simp [*])))) | ((with_reducible refine T.ret ?_); refine fin_pure ?_; simp [*]; try (change Hold _)) | (with_reducible refine T.block ?_) | ((with_reducible refine T.skip ?_); simp [*]) | ((with_reducible refine T.exit ?_); simp [*]) | ((with_reducible refine T.br fun K1 K2 hK1 hK2 => ?_); simp [*]; try ((refine Br.intro (fun hc => ?_) (fun hc => ?_)) <;> (try simp at hc))) | (with_reducible refine Cont.go (by assumption) _ ?_) | (with_reducible refine Cnt.go (by assumption) ?_))
  all_goals (unfold Hold at *; rw [hv]; try simp)

set_option maxHeartbeats 2000000 in
theorem ok_gs4 {e : Ex} (ha : allX e = true) : Okat Tryz.prog 55 [.int .i64 4, enc e] (gsV 4 e) := by
  have hE := (((EnvOk.nil (P := Tryz.prog) (eq := fun _ => false) (own := fun _ => false) (mem := fun _ => false) EqOk.none).addf ok_rKid).addf ok_rStands)
  refine ⟨⟨Tryz.f55, Tryz.func55, by decide, rfl⟩, pure_of_T Tryz.func55 rfl (by simp [Tryz.ntmps55]) fun q => ?_⟩
  have hr1 : List.range 1 = [0] := rfl
  have hr2 : List.range 2 = [0, 1] := rfl
  have hr3 : List.range 3 = [0, 1, 2] := rfl
  have hr4 : List.range 4 = [0, 1, 2, 3] := rfl
  have hd0 : decI .i64 [[.int .i64 0]] = some [0] := rfl
  have hp0 : okPs [0] := ⟨by simp, fun p hp => by simp at hp; omega⟩
  have hk0 : kdP e [0] = kd e 0 := rfl
  have hd1 : decI .i64 [[.int .i64 0], [.int .i64 0]] = some [0, 0] := rfl
  have hp1 : okPs [0, 0] := ⟨by simp, fun p hp => by simp at hp; omega⟩
  have hk1 : kdP e [0, 0] = kd (kd e 0) 0 := rfl
  have hd2 : decI .i64 [[.int .i64 1]] = some [1] := rfl
  have hp2 : okPs [1] := ⟨by simp, fun p hp => by simp at hp; omega⟩
  have hk2 : kdP e [1] = kd e 1 := rfl
  have hy : okY (kd (kd e 0) 0) := okY_kd (okY_kd (.inl ha) 0) 0
  cases hs : rsE (kd (kd e 0) 0) (kd e 1) (kd e 0).i with
  | some t =>
    have hrs : rsV (kd (kd e 0) 0) (kd e 1) (kd e 0).i = .tup [enc t, .bool true] := by unfold rsV; rw [hs]
    have hv : Hold (gsV 4 e = .agg [.sl (encL [kd (kd e 0) 0, t]) .no, .int .i64 (kd e 0).i]) := by unfold Hold gsV gs; simp [hs]
    clear hs
    repeat' (first | (with_reducible refine T.sq fun K hK => ?_) | ((first | ((with_reducible refine T.reg hE ?hd ?_); (case hd => kernel_rfl)) | ((with_reducible refine T.any hE mixed ?hd ?hok ?_); (case hd => kernel_rfl); (case hok => kernel_rfl))); simp [*]; (repeat' (split; all_goals (rename_i hc; try simp [*])))) | ((with_reducible refine T.ret ?_); refine fin_pure ?_; simp [*]; try (change Hold _)) | (with_reducible refine T.block ?_) | ((with_reducible refine T.skip ?_); simp [*]) | ((with_reducible refine T.exit ?_); simp [*]) | ((with_reducible refine T.br fun K1 K2 hK1 hK2 => ?_); simp [*]; try ((refine Br.intro (fun hc => ?_) (fun hc => ?_)) <;> (try simp at hc))) | (with_reducible refine Cont.go (by assumption) _ ?_) | (with_reducible refine Cnt.go (by assumption) ?_))
    all_goals (unfold Hold at *; rw [hv]; try simp)
  | none =>
    have hrs : rsV (kd (kd e 0) 0) (kd e 1) (kd e 0).i = .tup [enc ex0, .bool false] := by unfold rsV; rw [hs]
    have hv : Hold (gsV 4 e = .agg [.sl (encL [kd (kd e 0) 0, .mk 1 (kd e 0).i []]) .no, .int .i64 (kd e 0).i]) := by unfold Hold gsV gs; simp [hs]
    clear hs
    repeat' (first | (with_reducible refine T.sq fun K hK => ?_) | ((first | ((with_reducible refine T.reg hE ?hd ?_); (case hd => kernel_rfl)) | ((with_reducible refine T.any hE mixed ?hd ?hok ?_); (case hd => kernel_rfl); (case hok => kernel_rfl))); simp [*]; (repeat' (split; all_goals (rename_i hc; try simp [*])))) | ((with_reducible refine T.ret ?_); refine fin_pure ?_; simp [*]; try (change Hold _)) | (with_reducible refine T.block ?_) | ((with_reducible refine T.skip ?_); simp [*]) | ((with_reducible refine T.exit ?_); simp [*]) | ((with_reducible refine T.br fun K1 K2 hK1 hK2 => ?_); simp [*]; try ((refine Br.intro (fun hc => ?_) (fun hc => ?_)) <;> (try simp at hc))) | (with_reducible refine Cont.go (by assumption) _ ?_) | (with_reducible refine Cnt.go (by assumption) ?_))
    all_goals (unfold Hold at *; rw [hv]; try simp)

set_option maxHeartbeats 2000000 in
theorem ok_gs5 {e : Ex} (ha : allX e = true) : Okat Tryz.prog 55 [.int .i64 5, enc e] (gsV 5 e) := by
  have hE := ((EnvOk.nil (P := Tryz.prog) (eq := fun _ => false) (own := fun _ => false) (mem := fun _ => false) EqOk.none).addf ok_rKid)
  refine ⟨⟨Tryz.f55, Tryz.func55, by decide, rfl⟩, pure_of_T Tryz.func55 rfl (by simp [Tryz.ntmps55]) fun q => ?_⟩
  have hr1 : List.range 1 = [0] := rfl
  have hr2 : List.range 2 = [0, 1] := rfl
  have hr3 : List.range 3 = [0, 1, 2] := rfl
  have hr4 : List.range 4 = [0, 1, 2, 3] := rfl
  have hd0 : decI .i64 [[.int .i64 0]] = some [0] := rfl
  have hp0 : okPs [0] := ⟨by simp, fun p hp => by simp at hp; omega⟩
  have hk0 : kdP e [0] = kd e 0 := rfl
  have hd1 : decI .i64 [[.int .i64 0], [.int .i64 0], [.int .i64 0]] = some [0, 0, 0] := rfl
  have hp1 : okPs [0, 0, 0] := ⟨by simp, fun p hp => by simp at hp; omega⟩
  have hk1 : kdP e [0, 0, 0] = kd (kd (kd e 0) 0) 0 := rfl
  have hd2 : decI .i64 [[.int .i64 0], [.int .i64 0], [.int .i64 1]] = some [0, 0, 1] := rfl
  have hp2 : okPs [0, 0, 1] := ⟨by simp, fun p hp => by simp at hp; omega⟩
  have hk2 : kdP e [0, 0, 1] = kd (kd (kd e 0) 0) 1 := rfl
  have hv : Hold (gsV 5 e = .agg [.sl (encL [kd (kd (kd e 0) 0) 0, kd (kd (kd e 0) 0) 1]) .no, .int .i64 (kd e 0).i]) := by unfold Hold gsV gs; simp
  repeat' (first | (with_reducible refine T.sq fun K hK => ?_) | ((first | ((with_reducible refine T.reg hE ?hd ?_); (case hd => kernel_rfl)) | ((with_reducible refine T.any hE mixed ?hd ?hok ?_); (case hd => kernel_rfl); (case hok => kernel_rfl))); simp [*]; (repeat' (split; all_goals (rename_i hc; try simp [*])))) | ((with_reducible refine T.ret ?_); refine fin_pure ?_; simp [*]; try (change Hold _)) | (with_reducible refine T.block ?_) | ((with_reducible refine T.skip ?_); simp [*]) | ((with_reducible refine T.exit ?_); simp [*]) | ((with_reducible refine T.br fun K1 K2 hK1 hK2 => ?_); simp [*]; try ((refine Br.intro (fun hc => ?_) (fun hc => ?_)) <;> (try simp at hc))) | (with_reducible refine Cont.go (by assumption) _ ?_) | (with_reducible refine Cnt.go (by assumption) ?_))
  all_goals (unfold Hold at *; rw [hv]; try simp)

set_option maxHeartbeats 2000000 in
theorem ok_gs6 {e : Ex} (ha : allX e = true) : Okat Tryz.prog 55 [.int .i64 6, enc e] (gsV 6 e) := by
  have hE := ((EnvOk.nil (P := Tryz.prog) (eq := fun _ => false) (own := fun _ => false) (mem := fun _ => false) EqOk.none).addf ok_rKid)
  refine ⟨⟨Tryz.f55, Tryz.func55, by decide, rfl⟩, pure_of_T Tryz.func55 rfl (by simp [Tryz.ntmps55]) fun q => ?_⟩
  have hr1 : List.range 1 = [0] := rfl
  have hr2 : List.range 2 = [0, 1] := rfl
  have hr3 : List.range 3 = [0, 1, 2] := rfl
  have hr4 : List.range 4 = [0, 1, 2, 3] := rfl
  have hd0 : decI .i64 [[.int .i64 0]] = some [0] := rfl
  have hp0 : okPs [0] := ⟨by simp, fun p hp => by simp at hp; omega⟩
  have hk0 : kdP e [0] = kd e 0 := rfl
  have hv : Hold (gsV 6 e = .agg [.sl (encL [kd e 0]) .no, .int .i64 0]) := by unfold Hold gsV gs; simp
  repeat' (first | (with_reducible refine T.sq fun K hK => ?_) | ((first | ((with_reducible refine T.reg hE ?hd ?_); (case hd => kernel_rfl)) | ((with_reducible refine T.any hE mixed ?hd ?hok ?_); (case hd => kernel_rfl); (case hok => kernel_rfl))); simp [*]; (repeat' (split; all_goals (rename_i hc; try simp [*])))) | ((with_reducible refine T.ret ?_); refine fin_pure ?_; simp [*]; try (change Hold _)) | (with_reducible refine T.block ?_) | ((with_reducible refine T.skip ?_); simp [*]) | ((with_reducible refine T.exit ?_); simp [*]) | ((with_reducible refine T.br fun K1 K2 hK1 hK2 => ?_); simp [*]; try ((refine Br.intro (fun hc => ?_) (fun hc => ?_)) <;> (try simp at hc))) | (with_reducible refine Cont.go (by assumption) _ ?_) | (with_reducible refine Cnt.go (by assumption) ?_))
  all_goals (unfold Hold at *; rw [hv]; try simp)

set_option maxHeartbeats 2000000 in
theorem ok_gs7 {e : Ex} (ha : allX e = true) : Okat Tryz.prog 55 [.int .i64 7, enc e] (gsV 7 e) := by
  have hE := ((EnvOk.nil (P := Tryz.prog) (eq := fun _ => false) (own := fun _ => false) (mem := fun _ => false) EqOk.none).addf ok_rKid)
  refine ⟨⟨Tryz.f55, Tryz.func55, by decide, rfl⟩, pure_of_T Tryz.func55 rfl (by simp [Tryz.ntmps55]) fun q => ?_⟩
  have hr1 : List.range 1 = [0] := rfl
  have hr2 : List.range 2 = [0, 1] := rfl
  have hr3 : List.range 3 = [0, 1, 2] := rfl
  have hr4 : List.range 4 = [0, 1, 2, 3] := rfl
  have hd0 : decI .i64 [[.int .i64 0], [.int .i64 0]] = some [0, 0] := rfl
  have hp0 : okPs [0, 0] := ⟨by simp, fun p hp => by simp at hp; omega⟩
  have hk0 : kdP e [0, 0] = kd (kd e 0) 0 := rfl
  have hd1 : decI .i64 [[.int .i64 0], [.int .i64 1]] = some [0, 1] := rfl
  have hp1 : okPs [0, 1] := ⟨by simp, fun p hp => by simp at hp; omega⟩
  have hk1 : kdP e [0, 1] = kd (kd e 0) 1 := rfl
  have hd2 : decI .i64 [[.int .i64 1], [.int .i64 0]] = some [1, 0] := rfl
  have hp2 : okPs [1, 0] := ⟨by simp, fun p hp => by simp at hp; omega⟩
  have hk2 : kdP e [1, 0] = kd (kd e 1) 0 := rfl
  have hd3 : decI .i64 [[.int .i64 1], [.int .i64 1]] = some [1, 1] := rfl
  have hp3 : okPs [1, 1] := ⟨by simp, fun p hp => by simp at hp; omega⟩
  have hk3 : kdP e [1, 1] = kd (kd e 1) 1 := rfl
  have hv : Hold (gsV 7 e = .agg [.sl (encL [kd (kd e 0) 0, kd (kd e 0) 1, kd (kd e 1) 0, kd (kd e 1) 1]) .no, .int .i64 0]) := by unfold Hold gsV gs; simp
  repeat' (first | (with_reducible refine T.sq fun K hK => ?_) | ((first | ((with_reducible refine T.reg hE ?hd ?_); (case hd => kernel_rfl)) | ((with_reducible refine T.any hE mixed ?hd ?hok ?_); (case hd => kernel_rfl); (case hok => kernel_rfl))); simp [*]; (repeat' (split; all_goals (rename_i hc; try simp [*])))) | ((with_reducible refine T.ret ?_); refine fin_pure ?_; simp [*]; try (change Hold _)) | (with_reducible refine T.block ?_) | ((with_reducible refine T.skip ?_); simp [*]) | ((with_reducible refine T.exit ?_); simp [*]) | ((with_reducible refine T.br fun K1 K2 hK1 hK2 => ?_); simp [*]; try ((refine Br.intro (fun hc => ?_) (fun hc => ?_)) <;> (try simp at hc))) | (with_reducible refine Cont.go (by assumption) _ ?_) | (with_reducible refine Cnt.go (by assumption) ?_))
  all_goals (unfold Hold at *; rw [hv]; try simp)

def okGs (k : Int) (e : Ex) : Prop := okK k ∧ allX e = true
noncomputable instance (k : Int) (e : Ex) : Decidable (okGs k e) := Classical.propDecidable _
@[simp] noncomputable def gGuess : List V → Option V := f2 (kI .i64) kE fun k e => if okGs k e then some (gsV k e) else none
theorem ok_rGuess : PureOk Tryz.prog 55 gGuess := by
  intro args r h
  obtain ⟨k, e, rfl, hr⟩ := f2_inv h; clear h
  split at hr
  · rename_i hm
    obtain ⟨hk, ha⟩ := hm
    cases hr
    rcases seven hk with rfl | rfl | rfl | rfl | rfl | rfl | rfl
    · exact ok_gs1 ha
    · exact ok_gs2 ha
    · exact ok_gs3 ha
    · exact ok_gs4 ha
    · exact ok_gs5 ha
    · exact ok_gs6 ha
    · exact ok_gs7 ha
  · cases hr
set_option maxHeartbeats 2000000 in
theorem ok_rPartsS : PureOk Tryz.prog 23 gPartsR := by
  intro args r h
  obtain ⟨k, e, rfl, ⟨⟩⟩ := f2_inv h; clear h
  have hE := (((((EnvOk.nil (P := Tryz.prog) (eq := fun _ => false) (own := fun _ => false) (mem := fun _ => false) EqOk.none).addf ok_rWantF).addf ok_rGuess).addf ok_rMake).addf ok_rLike)
  refine ⟨⟨Tryz.f23, Tryz.func23, by decide, rfl⟩, pure_of_T Tryz.func23 rfl (by simp [Tryz.ntmps23]) fun q => ?_⟩
  by_cases k1 : k < 1
  · have hv : Hold (ptRes k e = .tup [.agg [.sl [] .no, .int .i64 0], .int .i64 70]) := ptRes_bad (by unfold ptErr; rw [if_neg (by omega)]) (by omega)
    repeat' (first | (with_reducible refine T.sq fun K hK => ?_) | ((first | ((with_reducible refine T.reg hE ?hd ?_); (case hd => kernel_rfl)) | ((with_reducible refine T.any hE mixed ?hd ?hok ?_); (case hd => kernel_rfl); (case hok => kernel_rfl))); simp [*]; (repeat' (split; all_goals (rename_i hc; try simp [*])))) | ((with_reducible refine T.ret ?_); refine fin_pure ?_; simp [*]; try (change Hold _)) | (with_reducible refine T.block ?_) | ((with_reducible refine T.skip ?_); simp [*]) | ((with_reducible refine T.exit ?_); simp [*]) | ((with_reducible refine T.br fun K1 K2 hK1 hK2 => ?_); simp [*]; try ((refine Br.intro (fun hc => ?_) (fun hc => ?_)) <;> (try simp at hc))) | (with_reducible refine Cont.go (by assumption) _ ?_) | (with_reducible refine Cnt.go (by assumption) ?_))
    all_goals (unfold Hold at *; rw [hv]; try simp)
  by_cases k2 : 7 < k
  · have hv : Hold (ptRes k e = .tup [.agg [.sl [] .no, .int .i64 0], .int .i64 70]) := ptRes_bad (by unfold ptErr; rw [if_neg (by omega)]) (by omega)
    repeat' (first | (with_reducible refine T.sq fun K hK => ?_) | ((first | ((with_reducible refine T.reg hE ?hd ?_); (case hd => kernel_rfl)) | ((with_reducible refine T.any hE mixed ?hd ?hok ?_); (case hd => kernel_rfl); (case hok => kernel_rfl))); simp [*]; (repeat' (split; all_goals (rename_i hc; try simp [*])))) | ((with_reducible refine T.ret ?_); refine fin_pure ?_; simp [*]; try (change Hold _)) | (with_reducible refine T.block ?_) | ((with_reducible refine T.skip ?_); simp [*]) | ((with_reducible refine T.exit ?_); simp [*]) | ((with_reducible refine T.br fun K1 K2 hK1 hK2 => ?_); simp [*]; try ((refine Br.intro (fun hc => ?_) (fun hc => ?_)) <;> (try simp at hc))) | (with_reducible refine Cont.go (by assumption) _ ?_) | (with_reducible refine Cnt.go (by assumption) ?_))
    all_goals (unfold Hold at *; rw [hv]; try simp)
  have he0 : Hold (ptErr k e = if wantF e ≠ 0 then wantF e else if validB k e = true then 0 else 73) := by unfold Hold ptErr; rw [if_pos ⟨by omega, by omega⟩]
  by_cases w : wantF e = 0
  rotate_left
  · have hv : Hold (ptRes k e = .tup [.agg [.sl [] .no, .int .i64 0], .int .i64 (wantF e)]) := ptRes_bad (by unfold Hold at he0; rw [he0, if_pos w]) w
    clear he0
    repeat' (first | (with_reducible refine T.sq fun K hK => ?_) | ((first | ((with_reducible refine T.reg hE ?hd ?_); (case hd => kernel_rfl)) | ((with_reducible refine T.any hE mixed ?hd ?hok ?_); (case hd => kernel_rfl); (case hok => kernel_rfl))); simp [*]; (repeat' (split; all_goals (rename_i hc; try simp [*])))) | ((with_reducible refine T.ret ?_); refine fin_pure ?_; simp [*]; try (change Hold _)) | (with_reducible refine T.block ?_) | ((with_reducible refine T.skip ?_); simp [*]) | ((with_reducible refine T.exit ?_); simp [*]) | ((with_reducible refine T.br fun K1 K2 hK1 hK2 => ?_); simp [*]; try ((refine Br.intro (fun hc => ?_) (fun hc => ?_)) <;> (try simp at hc))) | (with_reducible refine Cont.go (by assumption) _ ?_) | (with_reducible refine Cnt.go (by assumption) ?_))
    all_goals (unfold Hold at *; rw [hv]; try simp)
  obtain ⟨hre, hnt⟩ := wantF_zero w
  have hok : okGs k e := ⟨⟨by omega, by omega⟩, (right_zero hre).2.2⟩
  have hgv : gsV k e = .agg [.sl (encL (gs k e).1) .no, .int .i64 (gs k e).2] := rfl
  have he1 : Hold (ptErr k e = if validB k e = true then 0 else 73) := by unfold Hold at *; rw [he0, if_neg (by omega)]
  have hgood : validB k e = true → Hold (ptRes k e = .tup [.agg [.sl (encL (gs k e).1) .no, .int .i64 (gs k e).2], .int .i64 0]) := fun h => ptRes_good (by unfold Hold at he1; rw [he1, if_pos h])
  have hbad : validB k e = false → Hold (ptRes k e = .tup [.agg [.sl [] .no, .int .i64 0], .int .i64 73]) := fun h => ptRes_bad (by unfold Hold at he1; rw [he1, h]; rfl) (by omega)
  have hvb : validB k e = (decide (mkErr k (gs k e).1 (gs k e).2 = 0) && decide (ordE (instE k (gs k e).1 (gs k e).2) e = 0)) := rfl
  clear he0 he1
  generalize gs k e = P at *
  obtain ⟨l, x⟩ := P
  simp only at hgv hgood hvb
  by_cases m : mkErr k l x = 0
  · have hm := mkRes_good m
    rw [decide_eq_true m, Bool.true_and] at hvb
    clear m
    generalize instE k l x = I at *
    by_cases o : ordE I e = 0
    · have hv := hgood (by rw [hvb]; exact decide_eq_true o)
      clear hgood hbad hvb
      repeat' (first | (with_reducible refine T.sq fun K hK => ?_) | ((first | ((with_reducible refine T.reg hE ?hd ?_); (case hd => kernel_rfl)) | ((with_reducible refine T.any hE mixed ?hd ?hok ?_); (case hd => kernel_rfl); (case hok => kernel_rfl))); simp [*]; (repeat' (split; all_goals (rename_i hc; try simp [*])))) | ((with_reducible refine T.ret ?_); refine fin_pure ?_; simp [*]; try (change Hold _)) | (with_reducible refine T.block ?_) | ((with_reducible refine T.skip ?_); simp [*]) | ((with_reducible refine T.exit ?_); simp [*]) | ((with_reducible refine T.br fun K1 K2 hK1 hK2 => ?_); simp [*]; try ((refine Br.intro (fun hc => ?_) (fun hc => ?_)) <;> (try simp at hc))) | (with_reducible refine Cont.go (by assumption) _ ?_) | (with_reducible refine Cnt.go (by assumption) ?_))
      all_goals (unfold Hold at *; rw [hv]; try simp)
    · have hv := hbad (by rw [hvb]; exact decide_eq_false o)
      clear hgood hbad hvb
      repeat' (first | (with_reducible refine T.sq fun K hK => ?_) | ((first | ((with_reducible refine T.reg hE ?hd ?_); (case hd => kernel_rfl)) | ((with_reducible refine T.any hE mixed ?hd ?hok ?_); (case hd => kernel_rfl); (case hok => kernel_rfl))); simp [*]; (repeat' (split; all_goals (rename_i hc; try simp [*])))) | ((with_reducible refine T.ret ?_); refine fin_pure ?_; simp [*]; try (change Hold _)) | (with_reducible refine T.block ?_) | ((with_reducible refine T.skip ?_); simp [*]) | ((with_reducible refine T.exit ?_); simp [*]) | ((with_reducible refine T.br fun K1 K2 hK1 hK2 => ?_); simp [*]; try ((refine Br.intro (fun hc => ?_) (fun hc => ?_)) <;> (try simp at hc))) | (with_reducible refine Cont.go (by assumption) _ ?_) | (with_reducible refine Cnt.go (by assumption) ?_))
      all_goals (unfold Hold at *; rw [hv]; try simp)
  · have hm := mkRes_bad rfl m
    have hv := hbad (by rw [hvb, decide_eq_false m]; rfl)
    clear hgood hbad hvb
    repeat' (first | (with_reducible refine T.sq fun K hK => ?_) | ((first | ((with_reducible refine T.reg hE ?hd ?_); (case hd => kernel_rfl)) | ((with_reducible refine T.any hE mixed ?hd ?hok ?_); (case hd => kernel_rfl); (case hok => kernel_rfl))); simp [*]; (repeat' (split; all_goals (rename_i hc; try simp [*])))) | ((with_reducible refine T.ret ?_); refine fin_pure ?_; simp [*]; try (change Hold _)) | (with_reducible refine T.block ?_) | ((with_reducible refine T.skip ?_); simp [*]) | ((with_reducible refine T.exit ?_); simp [*]) | ((with_reducible refine T.br fun K1 K2 hK1 hK2 => ?_); simp [*]; try ((refine Br.intro (fun hc => ?_) (fun hc => ?_)) <;> (try simp at hc))) | (with_reducible refine Cont.go (by assumption) _ ?_) | (with_reducible refine Cnt.go (by assumption) ?_))
    all_goals (unfold Hold at *; rw [hv]; try simp)
theorem ok_rIsS : PureOk Tryz.prog 26 gIsR := by
  intro args r h
  obtain ⟨k, e, rfl, ⟨⟩⟩ := f2_inv h; clear h
  have hE := ((EnvOk.nil (P := Tryz.prog) (eq := fun _ => false) (own := fun _ => false) (mem := fun _ => false) EqOk.none).addf ok_rPartsS)
  refine ⟨⟨Tryz.f26, Tryz.func26, by decide, rfl⟩, pure_of_T Tryz.func26 rfl (by simp [Tryz.ntmps26]) fun q => ?_⟩
  have hp : ptRes k e = .tup [.agg [.sl (encL (ptP k e).1) .no, .int .i64 (ptP k e).2], .int .i64 (ptErr k e)] := rfl
  by_cases c : ptErr k e = 73
  · have hv : Hold (isR k e = .tup [.bool false, .int .i64 0]) := by unfold Hold isR; rw [c]; rfl
    repeat' (first | (with_reducible refine T.sq fun K hK => ?_) | ((first | ((with_reducible refine T.reg hE ?hd ?_); (case hd => kernel_rfl)) | ((with_reducible refine T.any hE mixed ?hd ?hok ?_); (case hd => kernel_rfl); (case hok => kernel_rfl))); simp [*]; (repeat' (split; all_goals (rename_i hc; try simp [*])))) | ((with_reducible refine T.ret ?_); refine fin_pure ?_; simp [*]; try (change Hold _)) | (with_reducible refine T.block ?_) | ((with_reducible refine T.skip ?_); simp [*]) | ((with_reducible refine T.exit ?_); simp [*]) | ((with_reducible refine T.br fun K1 K2 hK1 hK2 => ?_); simp [*]; try ((refine Br.intro (fun hc => ?_) (fun hc => ?_)) <;> (try simp at hc))) | (with_reducible refine Cont.go (by assumption) _ ?_) | (with_reducible refine Cnt.go (by assumption) ?_))
    all_goals (unfold Hold at *; rw [hv]; try simp)
  · by_cases d : ptErr k e = 0
    · have hv : Hold (isR k e = .tup [.bool true, .int .i64 0]) := by unfold Hold isR; rw [d]; rfl
      repeat' (first | (with_reducible refine T.sq fun K hK => ?_) | ((first | ((with_reducible refine T.reg hE ?hd ?_); (case hd => kernel_rfl)) | ((with_reducible refine T.any hE mixed ?hd ?hok ?_); (case hd => kernel_rfl); (case hok => kernel_rfl))); simp [*]; (repeat' (split; all_goals (rename_i hc; try simp [*])))) | ((with_reducible refine T.ret ?_); refine fin_pure ?_; simp [*]; try (change Hold _)) | (with_reducible refine T.block ?_) | ((with_reducible refine T.skip ?_); simp [*]) | ((with_reducible refine T.exit ?_); simp [*]) | ((with_reducible refine T.br fun K1 K2 hK1 hK2 => ?_); simp [*]; try ((refine Br.intro (fun hc => ?_) (fun hc => ?_)) <;> (try simp at hc))) | (with_reducible refine Cont.go (by assumption) _ ?_) | (with_reducible refine Cnt.go (by assumption) ?_))
      all_goals (unfold Hold at *; rw [hv]; try simp)
    · have hv : Hold (isR k e = .tup [.bool false, .int .i64 (ptErr k e)]) := by unfold Hold isR; rw [decide_eq_false d, if_neg c]
      repeat' (first | (with_reducible refine T.sq fun K hK => ?_) | ((first | ((with_reducible refine T.reg hE ?hd ?_); (case hd => kernel_rfl)) | ((with_reducible refine T.any hE mixed ?hd ?hok ?_); (case hd => kernel_rfl); (case hok => kernel_rfl))); simp [*]; (repeat' (split; all_goals (rename_i hc; try simp [*])))) | ((with_reducible refine T.ret ?_); refine fin_pure ?_; simp [*]; try (change Hold _)) | (with_reducible refine T.block ?_) | ((with_reducible refine T.skip ?_); simp [*]) | ((with_reducible refine T.exit ?_); simp [*]) | ((with_reducible refine T.br fun K1 K2 hK1 hK2 => ?_); simp [*]; try ((refine Br.intro (fun hc => ?_) (fun hc => ?_)) <;> (try simp at hc))) | (with_reducible refine Cont.go (by assumption) _ ?_) | (with_reducible refine Cnt.go (by assumption) ?_))
      all_goals (unfold Hold at *; rw [hv]; try simp)

end Go.Proofs.YtibfdebhbibfpaaGreat.Ax
