/- Contracts: Which; SchemaParts, SchemaWhich. -/
import Derived.Test.YtibfdebhbibfpaaGreatDxM
set_option linter.unusedVariables false
set_option linter.unusedSimpArgs false
namespace Go.Proofs.YtibfdebhbibfpaaGreat.Ax
open Go Go.Proofs

def okPP (p q : List Ex × Int) : Prop := p = q ∧ p.1.length ≤ 1000
noncomputable instance (p q : List Ex × Int) : Decidable (okPP p q) := Classical.propDecidable _
@[simp] noncomputable def gSameP : List V → Option V := f2 kPa kPa fun p q => if okPP p q then some (.bool true) else none
set_option maxHeartbeats 1000000 in
theorem ok_sameP : PureOk Tryz.prog 24 gSameP := by
  intro args r h
  obtain ⟨⟨l, x⟩, p2, rfl, hr⟩ := f2_inv h; clear h
  split at hr
  · rename_i hm
    obtain ⟨rfl, hl⟩ := hm
    simp only at hl
    cases hr
    have hE := ((EnvOk.nil (P := Tryz.prog) (eq := fun _ => false) (own := fun _ => false) (mem := fun _ => false) EqOk.none).addf ok_rLike)
    refine ⟨⟨Tryz.f24, Tryz.func24, by decide, rfl⟩, pure_of_T Tryz.func24 rfl (by simp [Tryz.ntmps24]) fun q => ?_⟩
    repeat' (first | (with_reducible refine T.sq fun K hK => ?_) | ((first | ((with_reducible refine T.reg hE ?hd ?_); (case hd => kernel_rfl)) | ((with_reducible refine T.any hE mixed ?hd ?hok ?_); (case hd => kernel_rfl); (case hok => kernel_rfl))); simp [*]; (repeat' (split; all_goals (rename_i hc; try simp [*])))) | ((with_reducible refine T.ret ?_); refine fin_pure ?_; simp [*]; try (change Hold _)) | (with_reducible refine T.block ?_) | ((with_reducible refine T.skip ?_); simp [*]) | ((with_reducible refine T.exit ?_); simp [*]) | ((with_reducible refine T.br fun K1 K2 hK1 hK2 => ?_); simp [*]; try ((refine Br.intro (fun hc => ?_) (fun hc => ?_)) <;> (try simp at hc))) | (with_reducible refine Cont.go (by assumption) _ ?_) | (with_reducible refine Cnt.go (by assumption) ?_))
    refine T.loop (fun n σ => ∃ j : Nat, n = l.length - j ∧ σ.get 2 = .ptr (0 :: 4 :: q) 0 ∧ σ.M (0 :: 4 :: q) = some (.cells [.sl (encL l) .no, .int .i64 x]) ∧ σ.get 3 = .ptr (0 :: 5 :: q) 0 ∧ σ.M (0 :: 5 :: q) = some (.cells [.sl (encL l) .no, .int .i64 x]) ∧ σ.get 22 = .int .i64 l.length ∧ σ.get 23 = .int .i64 j ∧ j ≤ l.length) l.length ⟨0, by simp, by simp [*], by simp [*], by simp [*], by simp [*], by simp [*], by simp [*], by omega⟩ ?_
    rintro n σ ⟨j, rfl, g1, m1, g2, m2, g3, g4, g5⟩
    by_cases hj : j < l.length
    · have hw : IntKind.i64.wrap ((j : Int) + 1) = (j : Int) + 1 := wrap64 (by omega) (by omega)
      have ho := ordE_self l[j]
      repeat' (first | (with_reducible refine T.sq fun K hK => ?_) | ((first | ((with_reducible refine T.reg hE ?hd ?_); (case hd => kernel_rfl)) | ((with_reducible refine T.any hE mixed ?hd ?hok ?_); (case hd => kernel_rfl); (case hok => kernel_rfl))); simp [*]; (repeat' (split; all_goals (rename_i hc; try simp [*])))) | ((with_reducible refine T.ret ?_); refine fin_pure ?_; simp [*]; try (change Hold _)) | (with_reducible refine T.block ?_) | ((with_reducible refine T.skip ?_); simp [*]) | ((with_reducible refine T.exit ?_); simp [*]) | ((with_reducible refine T.br fun K1 K2 hK1 hK2 => ?_); simp [*]; try ((refine Br.intro (fun hc => ?_) (fun hc => ?_)) <;> (try simp at hc))) | (with_reducible refine Cont.go (by assumption) _ ?_) | (with_reducible refine Cnt.go (by assumption) ?_))
      exact ⟨_, by omega, j + 1, rfl, by omega, by omega⟩
    · have w8 : j = l.length := by omega
      subst w8
      repeat' (first | (with_reducible refine T.sq fun K hK => ?_) | ((first | ((with_reducible refine T.reg hE ?hd ?_); (case hd => kernel_rfl)) | ((with_reducible refine T.any hE mixed ?hd ?hok ?_); (case hd => kernel_rfl); (case hok => kernel_rfl))); simp [*]; (repeat' (split; all_goals (rename_i hc; try simp [*])))) | ((with_reducible refine T.ret ?_); refine fin_pure ?_; simp [*]; try (change Hold _)) | (with_reducible refine T.block ?_) | ((with_reducible refine T.skip ?_); simp [*]) | ((with_reducible refine T.exit ?_); simp [*]) | ((with_reducible refine T.br fun K1 K2 hK1 hK2 => ?_); simp [*]; try ((refine Br.intro (fun hc => ?_) (fun hc => ?_)) <;> (try simp at hc))) | (with_reducible refine Cont.go (by assumption) _ ?_) | (with_reducible refine Cnt.go (by assumption) ?_))
  · cases hr
def okSI (l m : List Int) : Prop := l = m ∧ l.length ≤ 1000
noncomputable instance (l m : List Int) : Decidable (okSI l m) := Classical.propDecidable _
@[simp] noncomputable def gSameI : List V → Option V := f2 (kIs .i64) (kIs .i64) fun l m => if okSI l m then some (.bool true) else none
set_option maxHeartbeats 1000000 in
theorem ok_sameI : PureOk Tryz.prog 21 gSameI := by
  intro args r h
  obtain ⟨l, m, rfl, hr⟩ := f2_inv h; clear h
  split at hr
  · rename_i hm
    obtain ⟨rfl, hl⟩ := hm
    cases hr
    have hE := (EnvOk.nil (P := Tryz.prog) (eq := fun _ => false) (own := fun _ => false) (mem := fun _ => false) EqOk.none)
    refine ⟨⟨Tryz.f21, Tryz.func21, by decide, rfl⟩, pure_of_T Tryz.func21 rfl (by simp [Tryz.ntmps21]) fun q => ?_⟩
    repeat' (first | (with_reducible refine T.sq fun K hK => ?_) | ((first | ((with_reducible refine T.reg hE ?hd ?_); (case hd => kernel_rfl)) | ((with_reducible refine T.any hE mixed ?hd ?hok ?_); (case hd => kernel_rfl); (case hok => kernel_rfl))); simp [*]; (repeat' (split; all_goals (rename_i hc; try simp [*])))) | ((with_reducible refine T.ret ?_); refine fin_pure ?_; simp [*]; try (change Hold _)) | (with_reducible refine T.block ?_) | ((with_reducible refine T.skip ?_); simp [*]) | ((with_reducible refine T.exit ?_); simp [*]) | ((with_reducible refine T.br fun K1 K2 hK1 hK2 => ?_); simp [*]; try ((refine Br.intro (fun hc => ?_) (fun hc => ?_)) <;> (try simp at hc))) | (with_reducible refine Cont.go (by assumption) _ ?_) | (with_reducible refine Cnt.go (by assumption) ?_))
    refine T.loop (fun n σ => ∃ j : Nat, n = l.length - j ∧ σ.get 0 = .sl (encI .i64 l) .no ∧ σ.get 1 = .sl (encI .i64 l) .no ∧ σ.get 12 = .int .i64 l.length ∧ σ.get 13 = .int .i64 j ∧ j ≤ l.length) l.length ⟨0, by simp, by simp [*], by simp [*], by simp [*], by simp [*], by omega⟩ ?_
    rintro n σ ⟨j, rfl, g1, g2, g3, g4, g5⟩
    by_cases hj : j < l.length
    · have hw : IntKind.i64.wrap ((j : Int) + 1) = (j : Int) + 1 := wrap64 (by omega) (by omega)
      repeat' (first | (with_reducible refine T.sq fun K hK => ?_) | ((first | ((with_reducible refine T.reg hE ?hd ?_); (case hd => kernel_rfl)) | ((with_reducible refine T.any hE mixed ?hd ?hok ?_); (case hd => kernel_rfl); (case hok => kernel_rfl))); simp [*]; (repeat' (split; all_goals (rename_i hc; try simp [*])))) | ((with_reducible refine T.ret ?_); refine fin_pure ?_; simp [*]; try (change Hold _)) | (with_reducible refine T.block ?_) | ((with_reducible refine T.skip ?_); simp [*]) | ((with_reducible refine T.exit ?_); simp [*]) | ((with_reducible refine T.br fun K1 K2 hK1 hK2 => ?_); simp [*]; try ((refine Br.intro (fun hc => ?_) (fun hc => ?_)) <;> (try simp at hc))) | (with_reducible refine Cont.go (by assumption) _ ?_) | (with_reducible refine Cnt.go (by assumption) ?_))
      exact ⟨_, by omega, j + 1, rfl, by omega, by omega⟩
    · have w8 : j = l.length := by omega
      subst w8
      repeat' (first | (with_reducible refine T.sq fun K hK => ?_) | ((first | ((with_reducible refine T.reg hE ?hd ?_); (case hd => kernel_rfl)) | ((with_reducible refine T.any hE mixed ?hd ?hok ?_); (case hd => kernel_rfl); (case hok => kernel_rfl))); simp [*]; (repeat' (split; all_goals (rename_i hc; try simp [*])))) | ((with_reducible refine T.ret ?_); refine fin_pure ?_; simp [*]; try (change Hold _)) | (with_reducible refine T.block ?_) | ((with_reducible refine T.skip ?_); simp [*]) | ((with_reducible refine T.exit ?_); simp [*]) | ((with_reducible refine T.br fun K1 K2 hK1 hK2 => ?_); simp [*]; try ((refine Br.intro (fun hc => ?_) (fun hc => ?_)) <;> (try simp at hc))) | (with_reducible refine Cont.go (by assumption) _ ?_) | (with_reducible refine Cnt.go (by assumption) ?_))
  · cases hr
/-! ### Which -/
def whN (e : Ex) : Nat → List Int
  | 0 => []
  | j + 1 => whN e j ++ (if validB ((j : Int) + 1) e = true then [(j : Int) + 1] else [])
theorem whN_len (e : Ex) : ∀ j, (whN e j).length ≤ j
  | 0 => by simp [whN]
  | j + 1 => by
    have := whN_len e j
    rw [whN, List.length_append]; split <;> simp <;> omega
def whV (e : Ex) : V := if wantF e = 0 then .tup [.sl (encI .i64 (whN e 7)) .no, .int .i64 0] else .tup [.sl [] .no, .int .i64 (wantF e)]
@[simp] def gWhich : List V → Option V := f1 kE fun e => some (whV e)
theorem encI_snoc' (l : List Int) (n : Int) : encI .i64 (l ++ [n]) = encI .i64 l ++ [[.int .i64 n]] := encI_snoc _ _ _ |>.symm
set_option maxHeartbeats 8000000 in
theorem ok_WhichS : PureOk Tryz.prog 19 gWhich := by
  intro args r h
  obtain ⟨e, rfl, ⟨⟩⟩ := f1_inv h; clear h
  have hE := ((((EnvOk.nil (P := Tryz.prog) (eq := fun _ => false) (own := fun _ => false) (mem := fun _ => false) EqOk.none).addf ok_sSorted).addf ok_rows).addf ok_sParts)
  refine ⟨⟨Tryz.f19, Tryz.func19, by decide, rfl⟩, pure_of_T Tryz.func19 rfl (by simp [Tryz.ntmps19]) fun q => ?_⟩
  have hr1 : List.range 1 = [0] := rfl
  have hz : ByteArray.size ⟨#[102]⟩ = 1 := rfl
  have hsf := sort_f e
  by_cases w : wantF e = 0
  rotate_left
  · have hv : Hold (whV e = .tup [.sl [] .no, .int .i64 (wantF e)]) := by unfold Hold whV; rw [if_neg w]
    repeat' (first | (with_reducible refine T.sq fun K hK => ?_) | ((first | ((with_reducible refine T.reg hE ?hd ?_); (case hd => kernel_rfl)) | ((with_reducible refine T.any hE mixed ?hd ?hok ?_); (case hd => kernel_rfl); (case hok => kernel_rfl))); simp [*]; (repeat' (split; all_goals (rename_i hc; try simp [*])))) | ((with_reducible refine T.ret ?_); refine fin_pure ?_; simp [*]; try (change Hold _)) | (with_reducible refine T.block ?_) | ((with_reducible refine T.skip ?_); simp [*]) | ((with_reducible refine T.exit ?_); simp [*]) | ((with_reducible refine T.br fun K1 K2 hK1 hK2 => ?_); simp [*]; try ((refine Br.intro (fun hc => ?_) (fun hc => ?_)) <;> (try simp at hc))) | (with_reducible refine Cont.go (by assumption) _ ?_) | (with_reducible refine Cnt.go (by assumption) ?_))
    all_goals (unfold Hold at *; rw [hv]; try simp)
  obtain ⟨hre, hnt⟩ := wantF_zero w
  have hv : Hold (whV e = .tup [.sl (encI .i64 (whN e 7)) .no, .int .i64 0]) := by unfold Hold whV; rw [if_pos w]
  have hr7 : rowsV.length = 7 := rfl
  repeat' (first | (with_reducible refine T.sq fun K hK => ?_) | ((first | ((with_reducible refine T.reg hE ?hd ?_); (case hd => kernel_rfl)) | ((with_reducible refine T.any hE mixed ?hd ?hok ?_); (case hd => kernel_rfl); (case hok => kernel_rfl))); simp [*]; (repeat' (split; all_goals (rename_i hc; try simp [*])))) | ((with_reducible refine T.ret ?_); refine fin_pure ?_; simp [*]; try (change Hold _)) | (with_reducible refine T.block ?_) | ((with_reducible refine T.skip ?_); simp [*]) | ((with_reducible refine T.exit ?_); simp [*]) | ((with_reducible refine T.br fun K1 K2 hK1 hK2 => ?_); simp [*]; try ((refine Br.intro (fun hc => ?_) (fun hc => ?_)) <;> (try simp at hc))) | (with_reducible refine Cont.go (by assumption) _ ?_) | (with_reducible refine Cnt.go (by assumption) ?_))
  refine T.loop (fun n σ => ∃ (j : Nat) (v : V), n = 7 - j ∧ σ.get 1 = .ptr (0 :: 3 :: q) 0 ∧ σ.M (0 :: 3 :: q) = some (.cells (encC e)) ∧ σ.get 17 = .sl rowsV .no ∧ σ.get 18 = .int .i64 7 ∧ σ.get 19 = .int .i64 j ∧ j ≤ 7 ∧ σ.get 5 = v ∧ Hold ((whN e j = [] ∧ v = .nils) ∨ ∃ id, v = .sl (encI .i64 (whN e j)) (.own id 1) ∧ σ.K id = true)) 7 ⟨0, .nils, by simp, by simp [*], by simp [*, encC_eq], by simp [*], by simp [*], by simp [*], by omega, by simp [*], .inl ⟨rfl, rfl⟩⟩ ?_
  rintro n σ ⟨j, v, rfl, g1, m1, g3, g4, g5, g6, g8, g7⟩
  rw [encC_eq] at m1
  unfold rowsV at g3
  have w11 : IntKind.i64.wrap 1 = 1 := wrap64 (by omega) (by omega)
  have w12 : IntKind.i64.wrap 2 = 2 := wrap64 (by omega) (by omega)
  have w13 : IntKind.i64.wrap 3 = 3 := wrap64 (by omega) (by omega)
  have w14 : IntKind.i64.wrap 4 = 4 := wrap64 (by omega) (by omega)
  have w15 : IntKind.i64.wrap 5 = 5 := wrap64 (by omega) (by omega)
  have w16 : IntKind.i64.wrap 6 = 6 := wrap64 (by omega) (by omega)
  have w17 : IntKind.i64.wrap 7 = 7 := wrap64 (by omega) (by omega)
  by_cases hj : j < 7
  · clear hr7 hv
    rcases (show j = 0 ∨ j = 1 ∨ j = 2 ∨ j = 3 ∨ j = 4 ∨ j = 5 ∨ j = 6 by omega) with rfl | rfl | rfl | rfl | rfl | rfl | rfl
    · have hok : okPt 1 ⟨#[102, 102]⟩ false 112 114 e := ⟨⟨by omega, by omega⟩, hre, rfl⟩
      have hlen := whN_len e 0
      have hcap : ((whN e 0).length + 1) * 8 ≤ 140737488355328 := by omega
      have hst : whN e 1 = whN e 0 ++ (if validB 1 e = true then [1] else []) := rfl
      cases hvb : validB 1 e with
      | true =>
        have hpt := pt_valid ⟨by omega, by omega⟩ hvb
        rw [hvb] at hst
        have hn : Hold (whN e 1 = whN e 0 ++ [1]) := hst
        clear hvb hst
        generalize gs 1 e = P at *
        rcases g7 with ⟨h0, rfl⟩ | ⟨id, rfl, hKt⟩
        · repeat' (first | (with_reducible refine T.sq fun K hK => ?_) | ((first | ((with_reducible refine T.reg hE ?hd ?_); (case hd => kernel_rfl)) | ((with_reducible refine T.any hE mixed ?hd ?hok ?_); (case hd => kernel_rfl); (case hok => kernel_rfl))); simp [*]; (repeat' (split; all_goals (rename_i hc; try simp [*])))) | ((with_reducible refine T.ret ?_); refine fin_pure ?_; simp [*]; try (change Hold _)) | (with_reducible refine T.block ?_) | ((with_reducible refine T.skip ?_); simp [*]) | ((with_reducible refine T.exit ?_); simp [*]) | ((with_reducible refine T.br fun K1 K2 hK1 hK2 => ?_); simp [*]; try ((refine Br.intro (fun hc => ?_) (fun hc => ?_)) <;> (try simp at hc))) | (with_reducible refine Cont.go (by assumption) _ ?_) | (with_reducible refine Cnt.go (by assumption) ?_))
          exact ⟨6 - 0, by omega, 1, rfl, by simp [encC_eq], rfl, by omega, by omega, _, ⟨by unfold Hold at hn; rw [hn, h0]; rfl, rfl⟩, .inl rfl⟩
        · repeat' (first | (with_reducible refine T.sq fun K hK => ?_) | ((first | ((with_reducible refine T.reg hE ?hd ?_); (case hd => kernel_rfl)) | ((with_reducible refine T.any hE mixed ?hd ?hok ?_); (case hd => kernel_rfl); (case hok => kernel_rfl))); simp [*]; (repeat' (split; all_goals (rename_i hc; try simp [*])))) | ((with_reducible refine T.ret ?_); refine fin_pure ?_; simp [*]; try (change Hold _)) | (with_reducible refine T.block ?_) | ((with_reducible refine T.skip ?_); simp [*]) | ((with_reducible refine T.exit ?_); simp [*]) | ((with_reducible refine T.br fun K1 K2 hK1 hK2 => ?_); simp [*]; try ((refine Br.intro (fun hc => ?_) (fun hc => ?_)) <;> (try simp at hc))) | (with_reducible refine Cont.go (by assumption) _ ?_) | (with_reducible refine Cnt.go (by assumption) ?_))
          exact ⟨6 - 0, by omega, 1, rfl, by simp [encC_eq], rfl, by omega, by omega, _, ⟨by unfold Hold at hn; rw [hn, encI_snoc'], rfl⟩, .inl rfl⟩
      | false =>
        obtain ⟨l', x', hpt⟩ := pt_not ⟨by omega, by omega⟩ hvb
        rw [hvb] at hst
        have hn : Hold (whN e 1 = whN e 0) := hst.trans (List.append_nil _)
        clear hvb hst
        rcases g7 with ⟨h0, rfl⟩ | ⟨id, rfl, hKt⟩
        · repeat' (first | (with_reducible refine T.sq fun K hK => ?_) | ((first | ((with_reducible refine T.reg hE ?hd ?_); (case hd => kernel_rfl)) | ((with_reducible refine T.any hE mixed ?hd ?hok ?_); (case hd => kernel_rfl); (case hok => kernel_rfl))); simp [*]; (repeat' (split; all_goals (rename_i hc; try simp [*])))) | ((with_reducible refine T.ret ?_); refine fin_pure ?_; simp [*]; try (change Hold _)) | (with_reducible refine T.block ?_) | ((with_reducible refine T.skip ?_); simp [*]) | ((with_reducible refine T.exit ?_); simp [*]) | ((with_reducible refine T.br fun K1 K2 hK1 hK2 => ?_); simp [*]; try ((refine Br.intro (fun hc => ?_) (fun hc => ?_)) <;> (try simp at hc))) | (with_reducible refine Cont.go (by assumption) _ ?_) | (with_reducible refine Cnt.go (by assumption) ?_))
          exact ⟨6 - 0, by omega, 1, rfl, by simp [encC_eq], rfl, by omega, by omega, by unfold Hold at hn ⊢; rw [hn, h0]⟩
        · repeat' (first | (with_reducible refine T.sq fun K hK => ?_) | ((first | ((with_reducible refine T.reg hE ?hd ?_); (case hd => kernel_rfl)) | ((with_reducible refine T.any hE mixed ?hd ?hok ?_); (case hd => kernel_rfl); (case hok => kernel_rfl))); simp [*]; (repeat' (split; all_goals (rename_i hc; try simp [*])))) | ((with_reducible refine T.ret ?_); refine fin_pure ?_; simp [*]; try (change Hold _)) | (with_reducible refine T.block ?_) | ((with_reducible refine T.skip ?_); simp [*]) | ((with_reducible refine T.exit ?_); simp [*]) | ((with_reducible refine T.br fun K1 K2 hK1 hK2 => ?_); simp [*]; try ((refine Br.intro (fun hc => ?_) (fun hc => ?_)) <;> (try simp at hc))) | (with_reducible refine Cont.go (by assumption) _ ?_) | (with_reducible refine Cnt.go (by assumption) ?_))
          exact ⟨6 - 0, by omega, 1, rfl, by simp [encC_eq], rfl, by omega, by omega, _, ⟨by unfold Hold at hn; rw [hn], rfl⟩, hKt⟩
    · have hok : okPt 2 ⟨#[102, 102, 102]⟩ false 116 117 e := ⟨⟨by omega, by omega⟩, hre, rfl⟩
      have hlen := whN_len e 1
      have hcap : ((whN e 1).length + 1) * 8 ≤ 140737488355328 := by omega
      have hst : whN e 2 = whN e 1 ++ (if validB 2 e = true then [2] else []) := rfl
      cases hvb : validB 2 e with
      | true =>
        have hpt := pt_valid ⟨by omega, by omega⟩ hvb
        rw [hvb] at hst
        have hn : Hold (whN e 2 = whN e 1 ++ [2]) := hst
        clear hvb hst
        generalize gs 2 e = P at *
        rcases g7 with ⟨h0, rfl⟩ | ⟨id, rfl, hKt⟩
        · repeat' (first | (with_reducible refine T.sq fun K hK => ?_) | ((first | ((with_reducible refine T.reg hE ?hd ?_); (case hd => kernel_rfl)) | ((with_reducible refine T.any hE mixed ?hd ?hok ?_); (case hd => kernel_rfl); (case hok => kernel_rfl))); simp [*]; (repeat' (split; all_goals (rename_i hc; try simp [*])))) | ((with_reducible refine T.ret ?_); refine fin_pure ?_; simp [*]; try (change Hold _)) | (with_reducible refine T.block ?_) | ((with_reducible refine T.skip ?_); simp [*]) | ((with_reducible refine T.exit ?_); simp [*]) | ((with_reducible refine T.br fun K1 K2 hK1 hK2 => ?_); simp [*]; try ((refine Br.intro (fun hc => ?_) (fun hc => ?_)) <;> (try simp at hc))) | (with_reducible refine Cont.go (by assumption) _ ?_) | (with_reducible refine Cnt.go (by assumption) ?_))
          exact ⟨6 - 1, by omega, 2, rfl, by simp [encC_eq], rfl, by omega, by omega, _, ⟨by unfold Hold at hn; rw [hn, h0]; rfl, rfl⟩, .inl rfl⟩
        · repeat' (first | (with_reducible refine T.sq fun K hK => ?_) | ((first | ((with_reducible refine T.reg hE ?hd ?_); (case hd => kernel_rfl)) | ((with_reducible refine T.any hE mixed ?hd ?hok ?_); (case hd => kernel_rfl); (case hok => kernel_rfl))); simp [*]; (repeat' (split; all_goals (rename_i hc; try simp [*])))) | ((with_reducible refine T.ret ?_); refine fin_pure ?_; simp [*]; try (change Hold _)) | (with_reducible refine T.block ?_) | ((with_reducible refine T.skip ?_); simp [*]) | ((with_reducible refine T.exit ?_); simp [*]) | ((with_reducible refine T.br fun K1 K2 hK1 hK2 => ?_); simp [*]; try ((refine Br.intro (fun hc => ?_) (fun hc => ?_)) <;> (try simp at hc))) | (with_reducible refine Cont.go (by assumption) _ ?_) | (with_reducible refine Cnt.go (by assumption) ?_))
          exact ⟨6 - 1, by omega, 2, rfl, by simp [encC_eq], rfl, by omega, by omega, _, ⟨by unfold Hold at hn; rw [hn, encI_snoc'], rfl⟩, .inl rfl⟩
      | false =>
        obtain ⟨l', x', hpt⟩ := pt_not ⟨by omega, by omega⟩ hvb
        rw [hvb] at hst
        have hn : Hold (whN e 2 = whN e 1) := hst.trans (List.append_nil _)
        clear hvb hst
        rcases g7 with ⟨h0, rfl⟩ | ⟨id, rfl, hKt⟩
        · repeat' (first | (with_reducible refine T.sq fun K hK => ?_) | ((first | ((with_reducible refine T.reg hE ?hd ?_); (case hd => kernel_rfl)) | ((with_reducible refine T.any hE mixed ?hd ?hok ?_); (case hd => kernel_rfl); (case hok => kernel_rfl))); simp [*]; (repeat' (split; all_goals (rename_i hc; try simp [*])))) | ((with_reducible refine T.ret ?_); refine fin_pure ?_; simp [*]; try (change Hold _)) | (with_reducible refine T.block ?_) | ((with_reducible refine T.skip ?_); simp [*]) | ((with_reducible refine T.exit ?_); simp [*]) | ((with_reducible refine T.br fun K1 K2 hK1 hK2 => ?_); simp [*]; try ((refine Br.intro (fun hc => ?_) (fun hc => ?_)) <;> (try simp at hc))) | (with_reducible refine Cont.go (by assumption) _ ?_) | (with_reducible refine Cnt.go (by assumption) ?_))
          exact ⟨6 - 1, by omega, 2, rfl, by simp [encC_eq], rfl, by omega, by omega, by unfold Hold at hn ⊢; rw [hn, h0]⟩
        · repeat' (first | (with_reducible refine T.sq fun K hK => ?_) | ((first | ((with_reducible refine T.reg hE ?hd ?_); (case hd => kernel_rfl)) | ((with_reducible refine T.any hE mixed ?hd ?hok ?_); (case hd => kernel_rfl); (case hok => kernel_rfl))); simp [*]; (repeat' (split; all_goals (rename_i hc; try simp [*])))) | ((with_reducible refine T.ret ?_); refine fin_pure ?_; simp [*]; try (change Hold _)) | (with_reducible refine T.block ?_) | ((with_reducible refine T.skip ?_); simp [*]) | ((with_reducible refine T.exit ?_); simp [*]) | ((with_reducible refine T.br fun K1 K2 hK1 hK2 => ?_); simp [*]; try ((refine Br.intro (fun hc => ?_) (fun hc => ?_)) <;> (try simp at hc))) | (with_reducible refine Cont.go (by assumption) _ ?_) | (with_reducible refine Cnt.go (by assumption) ?_))
          exact ⟨6 - 1, by omega, 2, rfl, by simp [encC_eq], rfl, by omega, by omega, _, ⟨by unfold Hold at hn; rw [hn], rfl⟩, hKt⟩
    · have hok : okPt 3 ⟨#[102, 102]⟩ false 118 120 e := ⟨⟨by omega, by omega⟩, hre, rfl⟩
      have hlen := whN_len e 2
      have hcap : ((whN e 2).length + 1) * 8 ≤ 140737488355328 := by omega
      have hst : whN e 3 = whN e 2 ++ (if validB 3 e = true then [3] else []) := rfl
      cases hvb : validB 3 e with
      | true =>
        have hpt := pt_valid ⟨by omega, by omega⟩ hvb
        rw [hvb] at hst
        have hn : Hold (whN e 3 = whN e 2 ++ [3]) := hst
        clear hvb hst
        generalize gs 3 e = P at *
        rcases g7 with ⟨h0, rfl⟩ | ⟨id, rfl, hKt⟩
        · repeat' (first | (with_reducible refine T.sq fun K hK => ?_) | ((first | ((with_reducible refine T.reg hE ?hd ?_); (case hd => kernel_rfl)) | ((with_reducible refine T.any hE mixed ?hd ?hok ?_); (case hd => kernel_rfl); (case hok => kernel_rfl))); simp [*]; (repeat' (split; all_goals (rename_i hc; try simp [*])))) | ((with_reducible refine T.ret ?_); refine fin_pure ?_; simp [*]; try (change Hold _)) | (with_reducible refine T.block ?_) | ((with_reducible refine T.skip ?_); simp [*]) | ((with_reducible refine T.exit ?_); simp [*]) | ((with_reducible refine T.br fun K1 K2 hK1 hK2 => ?_); simp [*]; try ((refine Br.intro (fun hc => ?_) (fun hc => ?_)) <;> (try simp at hc))) | (with_reducible refine Cont.go (by assumption) _ ?_) | (with_reducible refine Cnt.go (by assumption) ?_))
          exact ⟨6 - 2, by omega, 3, rfl, by simp [encC_eq], rfl, by omega, by omega, _, ⟨by unfold Hold at hn; rw [hn, h0]; rfl, rfl⟩, .inl rfl⟩
        · repeat' (first | (with_reducible refine T.sq fun K hK => ?_) | ((first | ((with_reducible refine T.reg hE ?hd ?_); (case hd => kernel_rfl)) | ((with_reducible refine T.any hE mixed ?hd ?hok ?_); (case hd => kernel_rfl); (case hok => kernel_rfl))); simp [*]; (repeat' (split; all_goals (rename_i hc; try simp [*])))) | ((with_reducible refine T.ret ?_); refine fin_pure ?_; simp [*]; try (change Hold _)) | (with_reducible refine T.block ?_) | ((with_reducible refine T.skip ?_); simp [*]) | ((with_reducible refine T.exit ?_); simp [*]) | ((with_reducible refine T.br fun K1 K2 hK1 hK2 => ?_); simp [*]; try ((refine Br.intro (fun hc => ?_) (fun hc => ?_)) <;> (try simp at hc))) | (with_reducible refine Cont.go (by assumption) _ ?_) | (with_reducible refine Cnt.go (by assumption) ?_))
          exact ⟨6 - 2, by omega, 3, rfl, by simp [encC_eq], rfl, by omega, by omega, _, ⟨by unfold Hold at hn; rw [hn, encI_snoc'], rfl⟩, .inl rfl⟩
      | false =>
        obtain ⟨l', x', hpt⟩ := pt_not ⟨by omega, by omega⟩ hvb
        rw [hvb] at hst
        have hn : Hold (whN e 3 = whN e 2) := hst.trans (List.append_nil _)
        clear hvb hst
        rcases g7 with ⟨h0, rfl⟩ | ⟨id, rfl, hKt⟩
        · repeat' (first | (with_reducible refine T.sq fun K hK => ?_) | ((first | ((with_reducible refine T.reg hE ?hd ?_); (case hd => kernel_rfl)) | ((with_reducible refine T.any hE mixed ?hd ?hok ?_); (case hd => kernel_rfl); (case hok => kernel_rfl))); simp [*]; (repeat' (split; all_goals (rename_i hc; try simp [*])))) | ((with_reducible refine T.ret ?_); refine fin_pure ?_; simp [*]; try (change Hold _)) | (with_reducible refine T.block ?_) | ((with_reducible refine T.skip ?_); simp [*]) | ((with_reducible refine T.exit ?_); simp [*]) | ((with_reducible refine T.br fun K1 K2 hK1 hK2 => ?_); simp [*]; try ((refine Br.intro (fun hc => ?_) (fun hc => ?_)) <;> (try simp at hc))) | (with_reducible refine Cont.go (by assumption) _ ?_) | (with_reducible refine Cnt.go (by assumption) ?_))
          exact ⟨6 - 2, by omega, 3, rfl, by simp [encC_eq], rfl, by omega, by omega, by unfold Hold at hn ⊢; rw [hn, h0]⟩
        · repeat' (first | (with_reducible refine T.sq fun K hK => ?_) | ((first | ((with_reducible refine T.reg hE ?hd ?_); (case hd => kernel_rfl)) | ((with_reducible refine T.any hE mixed ?hd ?hok ?_); (case hd => kernel_rfl); (case hok => kernel_rfl))); simp [*]; (repeat' (split; all_goals (rename_i hc; try simp [*])))) | ((with_reducible refine T.ret ?_); refine fin_pure ?_; simp [*]; try (change Hold _)) | (with_reducible refine T.block ?_) | ((with_reducible refine T.skip ?_); simp [*]) | ((with_reducible refine T.exit ?_); simp [*]) | ((with_reducible refine T.br fun K1 K2 hK1 hK2 => ?_); simp [*]; try ((refine Br.intro (fun hc => ?_) (fun hc => ?_)) <;> (try simp at hc))) | (with_reducible refine Cont.go (by assumption) _ ?_) | (with_reducible refine Cnt.go (by assumption) ?_))
          exact ⟨6 - 2, by omega, 3, rfl, by simp [encC_eq], rfl, by omega, by omega, _, ⟨by unfold Hold at hn; rw [hn], rfl⟩, hKt⟩
    · have hok : okPt 4 ⟨#[102, 116]⟩ true 121 122 e := ⟨⟨by omega, by omega⟩, hre, rfl⟩
      have hlen := whN_len e 3
      have hcap : ((whN e 3).length + 1) * 8 ≤ 140737488355328 := by omega
      have hst : whN e 4 = whN e 3 ++ (if validB 4 e = true then [4] else []) := rfl
      cases hvb : validB 4 e with
      | true =>
        have hpt := pt_valid ⟨by omega, by omega⟩ hvb
        rw [hvb] at hst
        have hn : Hold (whN e 4 = whN e 3 ++ [4]) := hst
        clear hvb hst
        generalize gs 4 e = P at *
        rcases g7 with ⟨h0, rfl⟩ | ⟨id, rfl, hKt⟩
        · repeat' (first | (with_reducible refine T.sq fun K hK => ?_) | ((first | ((with_reducible refine T.reg hE ?hd ?_); (case hd => kernel_rfl)) | ((with_reducible refine T.any hE mixed ?hd ?hok ?_); (case hd => kernel_rfl); (case hok => kernel_rfl))); simp [*]; (repeat' (split; all_goals (rename_i hc; try simp [*])))) | ((with_reducible refine T.ret ?_); refine fin_pure ?_; simp [*]; try (change Hold _)) | (with_reducible refine T.block ?_) | ((with_reducible refine T.skip ?_); simp [*]) | ((with_reducible refine T.exit ?_); simp [*]) | ((with_reducible refine T.br fun K1 K2 hK1 hK2 => ?_); simp [*]; try ((refine Br.intro (fun hc => ?_) (fun hc => ?_)) <;> (try simp at hc))) | (with_reducible refine Cont.go (by assumption) _ ?_) | (with_reducible refine Cnt.go (by assumption) ?_))
          exact ⟨6 - 3, by omega, 4, rfl, by simp [encC_eq], rfl, by omega, by omega, _, ⟨by unfold Hold at hn; rw [hn, h0]; rfl, rfl⟩, .inl rfl⟩
        · repeat' (first | (with_reducible refine T.sq fun K hK => ?_) | ((first | ((with_reducible refine T.reg hE ?hd ?_); (case hd => kernel_rfl)) | ((with_reducible refine T.any hE mixed ?hd ?hok ?_); (case hd => kernel_rfl); (case hok => kernel_rfl))); simp [*]; (repeat' (split; all_goals (rename_i hc; try simp [*])))) | ((with_reducible refine T.ret ?_); refine fin_pure ?_; simp [*]; try (change Hold _)) | (with_reducible refine T.block ?_) | ((with_reducible refine T.skip ?_); simp [*]) | ((with_reducible refine T.exit ?_); simp [*]) | ((with_reducible refine T.br fun K1 K2 hK1 hK2 => ?_); simp [*]; try ((refine Br.intro (fun hc => ?_) (fun hc => ?_)) <;> (try simp at hc))) | (with_reducible refine Cont.go (by assumption) _ ?_) | (with_reducible refine Cnt.go (by assumption) ?_))
          exact ⟨6 - 3, by omega, 4, rfl, by simp [encC_eq], rfl, by omega, by omega, _, ⟨by unfold Hold at hn; rw [hn, encI_snoc'], rfl⟩, .inl rfl⟩
      | false =>
        obtain ⟨l', x', hpt⟩ := pt_not ⟨by omega, by omega⟩ hvb
        rw [hvb] at hst
        have hn : Hold (whN e 4 = whN e 3) := hst.trans (List.append_nil _)
        clear hvb hst
        rcases g7 with ⟨h0, rfl⟩ | ⟨id, rfl, hKt⟩
        · repeat' (first | (with_reducible refine T.sq fun K hK => ?_) | ((first | ((with_reducible refine T.reg hE ?hd ?_); (case hd => kernel_rfl)) | ((with_reducible refine T.any hE mixed ?hd ?hok ?_); (case hd => kernel_rfl); (case hok => kernel_rfl))); simp [*]; (repeat' (split; all_goals (rename_i hc; try simp [*])))) | ((with_reducible refine T.ret ?_); refine fin_pure ?_; simp [*]; try (change Hold _)) | (with_reducible refine T.block ?_) | ((with_reducible refine T.skip ?_); simp [*]) | ((with_reducible refine T.exit ?_); simp [*]) | ((with_reducible refine T.br fun K1 K2 hK1 hK2 => ?_); simp [*]; try ((refine Br.intro (fun hc => ?_) (fun hc => ?_)) <;> (try simp at hc))) | (with_reducible refine Cont.go (by assumption) _ ?_) | (with_reducible refine Cnt.go (by assumption) ?_))
          exact ⟨6 - 3, by omega, 4, rfl, by simp [encC_eq], rfl, by omega, by omega, by unfold Hold at hn ⊢; rw [hn, h0]⟩
        · repeat' (first | (with_reducible refine T.sq fun K hK => ?_) | ((first | ((with_reducible refine T.reg hE ?hd ?_); (case hd => kernel_rfl)) | ((with_reducible refine T.any hE mixed ?hd ?hok ?_); (case hd => kernel_rfl); (case hok => kernel_rfl))); simp [*]; (repeat' (split; all_goals (rename_i hc; try simp [*])))) | ((with_reducible refine T.ret ?_); refine fin_pure ?_; simp [*]; try (change Hold _)) | (with_reducible refine T.block ?_) | ((with_reducible refine T.skip ?_); simp [*]) | ((with_reducible refine T.exit ?_); simp [*]) | ((with_reducible refine T.br fun K1 K2 hK1 hK2 => ?_); simp [*]; try ((refine Br.intro (fun hc => ?_) (fun hc => ?_)) <;> (try simp at hc))) | (with_reducible refine Cont.go (by assumption) _ ?_) | (with_reducible refine Cnt.go (by assumption) ?_))
          exact ⟨6 - 3, by omega, 4, rfl, by simp [encC_eq], rfl, by omega, by omega, _, ⟨by unfold Hold at hn; rw [hn], rfl⟩, hKt⟩
    · have hok : okPt 5 ⟨#[102, 102]⟩ true 123 126 e := ⟨⟨by omega, by omega⟩, hre, rfl⟩
      have hlen := whN_len e 4
      have hcap : ((whN e 4).length + 1) * 8 ≤ 140737488355328 := by omega
      have hst : whN e 5 = whN e 4 ++ (if validB 5 e = true then [5] else []) := rfl
      cases hvb : validB 5 e with
      | true =>
        have hpt := pt_valid ⟨by omega, by omega⟩ hvb
        rw [hvb] at hst
        have hn : Hold (whN e 5 = whN e 4 ++ [5]) := hst
        clear hvb hst
        generalize gs 5 e = P at *
        rcases g7 with ⟨h0, rfl⟩ | ⟨id, rfl, hKt⟩
        · repeat' (first | (with_reducible refine T.sq fun K hK => ?_) | ((first | ((with_reducible refine T.reg hE ?hd ?_); (case hd => kernel_rfl)) | ((with_reducible refine T.any hE mixed ?hd ?hok ?_); (case hd => kernel_rfl); (case hok => kernel_rfl))); simp [*]; (repeat' (split; all_goals (rename_i hc; try simp [*])))) | ((with_reducible refine T.ret ?_); refine fin_pure ?_; simp [*]; try (change Hold _)) | (with_reducible refine T.block ?_) | ((with_reducible refine T.skip ?_); simp [*]) | ((with_reducible refine T.exit ?_); simp [*]) | ((with_reducible refine T.br fun K1 K2 hK1 hK2 => ?_); simp [*]; try ((refine Br.intro (fun hc => ?_) (fun hc => ?_)) <;> (try simp at hc))) | (with_reducible refine Cont.go (by assumption) _ ?_) | (with_reducible refine Cnt.go (by assumption) ?_))
          exact ⟨6 - 4, by omega, 5, rfl, by simp [encC_eq], rfl, by omega, by omega, _, ⟨by unfold Hold at hn; rw [hn, h0]; rfl, rfl⟩, .inl rfl⟩
        · repeat' (first | (with_reducible refine T.sq fun K hK => ?_) | ((first | ((with_reducible refine T.reg hE ?hd ?_); (case hd => kernel_rfl)) | ((with_reducible refine T.any hE mixed ?hd ?hok ?_); (case hd => kernel_rfl); (case hok => kernel_rfl))); simp [*]; (repeat' (split; all_goals (rename_i hc; try simp [*])))) | ((with_reducible refine T.ret ?_); refine fin_pure ?_; simp [*]; try (change Hold _)) | (with_reducible refine T.block ?_) | ((with_reducible refine T.skip ?_); simp [*]) | ((with_reducible refine T.exit ?_); simp [*]) | ((with_reducible refine T.br fun K1 K2 hK1 hK2 => ?_); simp [*]; try ((refine Br.intro (fun hc => ?_) (fun hc => ?_)) <;> (try simp at hc))) | (with_reducible refine Cont.go (by assumption) _ ?_) | (with_reducible refine Cnt.go (by assumption) ?_))
          exact ⟨6 - 4, by omega, 5, rfl, by simp [encC_eq], rfl, by omega, by omega, _, ⟨by unfold Hold at hn; rw [hn, encI_snoc'], rfl⟩, .inl rfl⟩
      | false =>
        obtain ⟨l', x', hpt⟩ := pt_not ⟨by omega, by omega⟩ hvb
        rw [hvb] at hst
        have hn : Hold (whN e 5 = whN e 4) := hst.trans (List.append_nil _)
        clear hvb hst
        rcases g7 with ⟨h0, rfl⟩ | ⟨id, rfl, hKt⟩
        · repeat' (first | (with_reducible refine T.sq fun K hK => ?_) | ((first | ((with_reducible refine T.reg hE ?hd ?_); (case hd => kernel_rfl)) | ((with_reducible refine T.any hE mixed ?hd ?hok ?_); (case hd => kernel_rfl); (case hok => kernel_rfl))); simp [*]; (repeat' (split; all_goals (rename_i hc; try simp [*])))) | ((with_reducible refine T.ret ?_); refine fin_pure ?_; simp [*]; try (change Hold _)) | (with_reducible refine T.block ?_) | ((with_reducible refine T.skip ?_); simp [*]) | ((with_reducible refine T.exit ?_); simp [*]) | ((with_reducible refine T.br fun K1 K2 hK1 hK2 => ?_); simp [*]; try ((refine Br.intro (fun hc => ?_) (fun hc => ?_)) <;> (try simp at hc))) | (with_reducible refine Cont.go (by assumption) _ ?_) | (with_reducible refine Cnt.go (by assumption) ?_))
          exact ⟨6 - 4, by omega, 5, rfl, by simp [encC_eq], rfl, by omega, by omega, by unfold Hold at hn ⊢; rw [hn, h0]⟩
        · repeat' (first | (with_reducible refine T.sq fun K hK => ?_) | ((first | ((with_reducible refine T.reg hE ?hd ?_); (case hd => kernel_rfl)) | ((with_reducible refine T.any hE mixed ?hd ?hok ?_); (case hd => kernel_rfl); (case hok => kernel_rfl))); simp [*]; (repeat' (split; all_goals (rename_i hc; try simp [*])))) | ((with_reducible refine T.ret ?_); refine fin_pure ?_; simp [*]; try (change Hold _)) | (with_reducible refine T.block ?_) | ((with_reducible refine T.skip ?_); simp [*]) | ((with_reducible refine T.exit ?_); simp [*]) | ((with_reducible refine T.br fun K1 K2 hK1 hK2 => ?_); simp [*]; try ((refine Br.intro (fun hc => ?_) (fun hc => ?_)) <;> (try simp at hc))) | (with_reducible refine Cont.go (by assumption) _ ?_) | (with_reducible refine Cnt.go (by assumption) ?_))
          exact ⟨6 - 4, by omega, 5, rfl, by simp [encC_eq], rfl, by omega, by omega, _, ⟨by unfold Hold at hn; rw [hn], rfl⟩, hKt⟩
    · have hok : okPt 6 ⟨#[116]⟩ false 127 129 e := ⟨⟨by omega, by omega⟩, hre, rfl⟩
      have hlen := whN_len e 5
      have hcap : ((whN e 5).length + 1) * 8 ≤ 140737488355328 := by omega
      have hst : whN e 6 = whN e 5 ++ (if validB 6 e = true then [6] else []) := rfl
      cases hvb : validB 6 e with
      | true =>
        have hpt := pt_valid ⟨by omega, by omega⟩ hvb
        rw [hvb] at hst
        have hn : Hold (whN e 6 = whN e 5 ++ [6]) := hst
        clear hvb hst
        generalize gs 6 e = P at *
        rcases g7 with ⟨h0, rfl⟩ | ⟨id, rfl, hKt⟩
        · repeat' (first | (with_reducible refine T.sq fun K hK => ?_) | ((first | ((with_reducible refine T.reg hE ?hd ?_); (case hd => kernel_rfl)) | ((with_reducible refine T.any hE mixed ?hd ?hok ?_); (case hd => kernel_rfl); (case hok => kernel_rfl))); simp [*]; (repeat' (split; all_goals (rename_i hc; try simp [*])))) | ((with_reducible refine T.ret ?_); refine fin_pure ?_; simp [*]; try (change Hold _)) | (with_reducible refine T.block ?_) | ((with_reducible refine T.skip ?_); simp [*]) | ((with_reducible refine T.exit ?_); simp [*]) | ((with_reducible refine T.br fun K1 K2 hK1 hK2 => ?_); simp [*]; try ((refine Br.intro (fun hc => ?_) (fun hc => ?_)) <;> (try simp at hc))) | (with_reducible refine Cont.go (by assumption) _ ?_) | (with_reducible refine Cnt.go (by assumption) ?_))
          exact ⟨6 - 5, by omega, 6, rfl, by simp [encC_eq], rfl, by omega, by omega, _, ⟨by unfold Hold at hn; rw [hn, h0]; rfl, rfl⟩, .inl rfl⟩
        · repeat' (first | (with_reducible refine T.sq fun K hK => ?_) | ((first | ((with_reducible refine T.reg hE ?hd ?_); (case hd => kernel_rfl)) | ((with_reducible refine T.any hE mixed ?hd ?hok ?_); (case hd => kernel_rfl); (case hok => kernel_rfl))); simp [*]; (repeat' (split; all_goals (rename_i hc; try simp [*])))) | ((with_reducible refine T.ret ?_); refine fin_pure ?_; simp [*]; try (change Hold _)) | (with_reducible refine T.block ?_) | ((with_reducible refine T.skip ?_); simp [*]) | ((with_reducible refine T.exit ?_); simp [*]) | ((with_reducible refine T.br fun K1 K2 hK1 hK2 => ?_); simp [*]; try ((refine Br.intro (fun hc => ?_) (fun hc => ?_)) <;> (try simp at hc))) | (with_reducible refine Cont.go (by assumption) _ ?_) | (with_reducible refine Cnt.go (by assumption) ?_))
          exact ⟨6 - 5, by omega, 6, rfl, by simp [encC_eq], rfl, by omega, by omega, _, ⟨by unfold Hold at hn; rw [hn, encI_snoc'], rfl⟩, .inl rfl⟩
      | false =>
        obtain ⟨l', x', hpt⟩ := pt_not ⟨by omega, by omega⟩ hvb
        rw [hvb] at hst
        have hn : Hold (whN e 6 = whN e 5) := hst.trans (List.append_nil _)
        clear hvb hst
        rcases g7 with ⟨h0, rfl⟩ | ⟨id, rfl, hKt⟩
        · repeat' (first | (with_reducible refine T.sq fun K hK => ?_) | ((first | ((with_reducible refine T.reg hE ?hd ?_); (case hd => kernel_rfl)) | ((with_reducible refine T.any hE mixed ?hd ?hok ?_); (case hd => kernel_rfl); (case hok => kernel_rfl))); simp [*]; (repeat' (split; all_goals (rename_i hc; try simp [*])))) | ((with_reducible refine T.ret ?_); refine fin_pure ?_; simp [*]; try (change Hold _)) | (with_reducible refine T.block ?_) | ((with_reducible refine T.skip ?_); simp [*]) | ((with_reducible refine T.exit ?_); simp [*]) | ((with_reducible refine T.br fun K1 K2 hK1 hK2 => ?_); simp [*]; try ((refine Br.intro (fun hc => ?_) (fun hc => ?_)) <;> (try simp at hc))) | (with_reducible refine Cont.go (by assumption) _ ?_) | (with_reducible refine Cnt.go (by assumption) ?_))
          exact ⟨6 - 5, by omega, 6, rfl, by simp [encC_eq], rfl, by omega, by omega, by unfold Hold at hn ⊢; rw [hn, h0]⟩
        · repeat' (first | (with_reducible refine T.sq fun K hK => ?_) | ((first | ((with_reducible refine T.reg hE ?hd ?_); (case hd => kernel_rfl)) | ((with_reducible refine T.any hE mixed ?hd ?hok ?_); (case hd => kernel_rfl); (case hok => kernel_rfl))); simp [*]; (repeat' (split; all_goals (rename_i hc; try simp [*])))) | ((with_reducible refine T.ret ?_); refine fin_pure ?_; simp [*]; try (change Hold _)) | (with_reducible refine T.block ?_) | ((with_reducible refine T.skip ?_); simp [*]) | ((with_reducible refine T.exit ?_); simp [*]) | ((with_reducible refine T.br fun K1 K2 hK1 hK2 => ?_); simp [*]; try ((refine Br.intro (fun hc => ?_) (fun hc => ?_)) <;> (try simp at hc))) | (with_reducible refine Cont.go (by assumption) _ ?_) | (with_reducible refine Cnt.go (by assumption) ?_))
          exact ⟨6 - 5, by omega, 6, rfl, by simp [encC_eq], rfl, by omega, by omega, _, ⟨by unfold Hold at hn; rw [hn], rfl⟩, hKt⟩
    · have hok : okPt 7 ⟨#[116, 116, 102, 102]⟩ false 130 132 e := ⟨⟨by omega, by omega⟩, hre, rfl⟩
      have hlen := whN_len e 6
      have hcap : ((whN e 6).length + 1) * 8 ≤ 140737488355328 := by omega
      have hst : whN e 7 = whN e 6 ++ (if validB 7 e = true then [7] else []) := rfl
      cases hvb : validB 7 e with
      | true =>
        have hpt := pt_valid ⟨by omega, by omega⟩ hvb
        rw [hvb] at hst
        have hn : Hold (whN e 7 = whN e 6 ++ [7]) := hst
        clear hvb hst
        generalize gs 7 e = P at *
        rcases g7 with ⟨h0, rfl⟩ | ⟨id, rfl, hKt⟩
        · repeat' (first | (with_reducible refine T.sq fun K hK => ?_) | ((first | ((with_reducible refine T.reg hE ?hd ?_); (case hd => kernel_rfl)) | ((with_reducible refine T.any hE mixed ?hd ?hok ?_); (case hd => kernel_rfl); (case hok => kernel_rfl))); simp [*]; (repeat' (split; all_goals (rename_i hc; try simp [*])))) | ((with_reducible refine T.ret ?_); refine fin_pure ?_; simp [*]; try (change Hold _)) | (with_reducible refine T.block ?_) | ((with_reducible refine T.skip ?_); simp [*]) | ((with_reducible refine T.exit ?_); simp [*]) | ((with_reducible refine T.br fun K1 K2 hK1 hK2 => ?_); simp [*]; try ((refine Br.intro (fun hc => ?_) (fun hc => ?_)) <;> (try simp at hc))) | (with_reducible refine Cont.go (by assumption) _ ?_) | (with_reducible refine Cnt.go (by assumption) ?_))
          exact ⟨7, by omega, by simp [encC_eq], rfl, by omega, by omega, _, ⟨by unfold Hold at hn; rw [hn, h0]; rfl, rfl⟩, .inl rfl⟩
        · repeat' (first | (with_reducible refine T.sq fun K hK => ?_) | ((first | ((with_reducible refine T.reg hE ?hd ?_); (case hd => kernel_rfl)) | ((with_reducible refine T.any hE mixed ?hd ?hok ?_); (case hd => kernel_rfl); (case hok => kernel_rfl))); simp [*]; (repeat' (split; all_goals (rename_i hc; try simp [*])))) | ((with_reducible refine T.ret ?_); refine fin_pure ?_; simp [*]; try (change Hold _)) | (with_reducible refine T.block ?_) | ((with_reducible refine T.skip ?_); simp [*]) | ((with_reducible refine T.exit ?_); simp [*]) | ((with_reducible refine T.br fun K1 K2 hK1 hK2 => ?_); simp [*]; try ((refine Br.intro (fun hc => ?_) (fun hc => ?_)) <;> (try simp at hc))) | (with_reducible refine Cont.go (by assumption) _ ?_) | (with_reducible refine Cnt.go (by assumption) ?_))
          exact ⟨7, by omega, by simp [encC_eq], rfl, by omega, by omega, _, ⟨by unfold Hold at hn; rw [hn, encI_snoc'], rfl⟩, .inl rfl⟩
      | false =>
        obtain ⟨l', x', hpt⟩ := pt_not ⟨by omega, by omega⟩ hvb
        rw [hvb] at hst
        have hn : Hold (whN e 7 = whN e 6) := hst.trans (List.append_nil _)
        clear hvb hst
        rcases g7 with ⟨h0, rfl⟩ | ⟨id, rfl, hKt⟩
        · repeat' (first | (with_reducible refine T.sq fun K hK => ?_) | ((first | ((with_reducible refine T.reg hE ?hd ?_); (case hd => kernel_rfl)) | ((with_reducible refine T.any hE mixed ?hd ?hok ?_); (case hd => kernel_rfl); (case hok => kernel_rfl))); simp [*]; (repeat' (split; all_goals (rename_i hc; try simp [*])))) | ((with_reducible refine T.ret ?_); refine fin_pure ?_; simp [*]; try (change Hold _)) | (with_reducible refine T.block ?_) | ((with_reducible refine T.skip ?_); simp [*]) | ((with_reducible refine T.exit ?_); simp [*]) | ((with_reducible refine T.br fun K1 K2 hK1 hK2 => ?_); simp [*]; try ((refine Br.intro (fun hc => ?_) (fun hc => ?_)) <;> (try simp at hc))) | (with_reducible refine Cont.go (by assumption) _ ?_) | (with_reducible refine Cnt.go (by assumption) ?_))
          exact ⟨7, by omega, by simp [encC_eq], rfl, by omega, by omega, by unfold Hold at hn ⊢; rw [hn, h0]⟩
        · repeat' (first | (with_reducible refine T.sq fun K hK => ?_) | ((first | ((with_reducible refine T.reg hE ?hd ?_); (case hd => kernel_rfl)) | ((with_reducible refine T.any hE mixed ?hd ?hok ?_); (case hd => kernel_rfl); (case hok => kernel_rfl))); simp [*]; (repeat' (split; all_goals (rename_i hc; try simp [*])))) | ((with_reducible refine T.ret ?_); refine fin_pure ?_; simp [*]; try (change Hold _)) | (with_reducible refine T.block ?_) | ((with_reducible refine T.skip ?_); simp [*]) | ((with_reducible refine T.exit ?_); simp [*]) | ((with_reducible refine T.br fun K1 K2 hK1 hK2 => ?_); simp [*]; try ((refine Br.intro (fun hc => ?_) (fun hc => ?_)) <;> (try simp at hc))) | (with_reducible refine Cont.go (by assumption) _ ?_) | (with_reducible refine Cnt.go (by assumption) ?_))
          exact ⟨7, by omega, by simp [encC_eq], rfl, by omega, by omega, _, ⟨by unfold Hold at hn; rw [hn], rfl⟩, hKt⟩
  · have w8 : j = 7 := by omega
    subst w8
    rcases g7 with ⟨h0, rfl⟩ | ⟨id, rfl, hKt⟩
    · rw [h0] at hv
      clear h0
      repeat' (first | (with_reducible refine T.sq fun K hK => ?_) | ((first | ((with_reducible refine T.reg hE ?hd ?_); (case hd => kernel_rfl)) | ((with_reducible refine T.any hE mixed ?hd ?hok ?_); (case hd => kernel_rfl); (case hok => kernel_rfl))); simp [*]; (repeat' (split; all_goals (rename_i hc; try simp [*])))) | ((with_reducible refine T.ret ?_); refine fin_pure ?_; simp [*]; try (change Hold _)) | (with_reducible refine T.block ?_) | ((with_reducible refine T.skip ?_); simp [*]) | ((with_reducible refine T.exit ?_); simp [*]) | ((with_reducible refine T.br fun K1 K2 hK1 hK2 => ?_); simp [*]; try ((refine Br.intro (fun hc => ?_) (fun hc => ?_)) <;> (try simp at hc))) | (with_reducible refine Cont.go (by assumption) _ ?_) | (with_reducible refine Cnt.go (by assumption) ?_))
      all_goals (unfold Hold at *; rw [hv]; try simp)
    · repeat' (first | (with_reducible refine T.sq fun K hK => ?_) | ((first | ((with_reducible refine T.reg hE ?hd ?_); (case hd => kernel_rfl)) | ((with_reducible refine T.any hE mixed ?hd ?hok ?_); (case hd => kernel_rfl); (case hok => kernel_rfl))); simp [*]; (repeat' (split; all_goals (rename_i hc; try simp [*])))) | ((with_reducible refine T.ret ?_); refine fin_pure ?_; simp [*]; try (change Hold _)) | (with_reducible refine T.block ?_) | ((with_reducible refine T.skip ?_); simp [*]) | ((with_reducible refine T.exit ?_); simp [*]) | ((with_reducible refine T.br fun K1 K2 hK1 hK2 => ?_); simp [*]; try ((refine Br.intro (fun hc => ?_) (fun hc => ?_)) <;> (try simp at hc))) | (with_reducible refine Cont.go (by assumption) _ ?_) | (with_reducible refine Cnt.go (by assumption) ?_))
      all_goals (unfold Hold at *; rw [hv]; try simp)
theorem is_r {k : Int} {e : Ex} (hk : okK k) (w : wantF e = 0) : ∃ n, isR k e = .tup [.bool (validB k e), .int .i64 n] := by
  unfold isR ptErr
  rw [if_pos (show 1 ≤ k ∧ k ≤ 7 from hk), if_neg (by simpa using w)]
  cases validB k e <;> exact ⟨_, rfl⟩
set_option maxHeartbeats 2000000 in
theorem ok_rWhichS : PureOk Tryz.prog 20 gWhich := by
  intro args r h
  obtain ⟨e, rfl, ⟨⟩⟩ := f1_inv h; clear h
  have hE := (((EnvOk.nil (P := Tryz.prog) (eq := fun _ => false) (own := fun _ => false) (mem := fun _ => false) EqOk.none).addf ok_rWantF).addf ok_rIsS)
  refine ⟨⟨Tryz.f20, Tryz.func20, by decide, rfl⟩, pure_of_T Tryz.func20 rfl (by simp [Tryz.ntmps20]) fun q => ?_⟩
  have hr0 : List.range 0 = [] := rfl
  have hr1 : List.range 1 = [0] := rfl
  by_cases w : wantF e = 0
  rotate_left
  · have hv : Hold (whV e = .tup [.sl [] .no, .int .i64 (wantF e)]) := by unfold Hold whV; rw [if_neg w]
    repeat' (first | (with_reducible refine T.sq fun K hK => ?_) | ((first | ((with_reducible refine T.reg hE ?hd ?_); (case hd => kernel_rfl)) | ((with_reducible refine T.any hE mixed ?hd ?hok ?_); (case hd => kernel_rfl); (case hok => kernel_rfl))); simp [*]; (repeat' (split; all_goals (rename_i hc; try simp [*])))) | ((with_reducible refine T.ret ?_); refine fin_pure ?_; simp [*]; try (change Hold _)) | (with_reducible refine T.block ?_) | ((with_reducible refine T.skip ?_); simp [*]) | ((with_reducible refine T.exit ?_); simp [*]) | ((with_reducible refine T.br fun K1 K2 hK1 hK2 => ?_); simp [*]; try ((refine Br.intro (fun hc => ?_) (fun hc => ?_)) <;> (try simp at hc))) | (with_reducible refine Cont.go (by assumption) _ ?_) | (with_reducible refine Cnt.go (by assumption) ?_))
    all_goals (unfold Hold at *; rw [hv]; try simp)
  have hv : Hold (whV e = .tup [.sl (encI .i64 (whN e 7)) .no, .int .i64 0]) := by unfold Hold whV; rw [if_pos w]
  repeat' (first | (with_reducible refine T.sq fun K hK => ?_) | ((first | ((with_reducible refine T.reg hE ?hd ?_); (case hd => kernel_rfl)) | ((with_reducible refine T.any hE mixed ?hd ?hok ?_); (case hd => kernel_rfl); (case hok => kernel_rfl))); simp [*]; (repeat' (split; all_goals (rename_i hc; try simp [*])))) | ((with_reducible refine T.ret ?_); refine fin_pure ?_; simp [*]; try (change Hold _)) | (with_reducible refine T.block ?_) | ((with_reducible refine T.skip ?_); simp [*]) | ((with_reducible refine T.exit ?_); simp [*]) | ((with_reducible refine T.br fun K1 K2 hK1 hK2 => ?_); simp [*]; try ((refine Br.intro (fun hc => ?_) (fun hc => ?_)) <;> (try simp at hc))) | (with_reducible refine Cont.go (by assumption) _ ?_) | (with_reducible refine Cnt.go (by assumption) ?_))
  refine T.loop (fun n σ => ∃ (j : Nat) (v : V), n = 7 - j ∧ σ.get 1 = .ptr (0 :: 3 :: q) 0 ∧ σ.M (0 :: 3 :: q) = some (.cells (encC e)) ∧ σ.get 6 = .int .i64 ((j : Int) + 1) ∧ j ≤ 7 ∧ σ.get 5 = v ∧ Hold ((whN e j = [] ∧ v = .sl [] .ex) ∨ ∃ id, v = .sl (encI .i64 (whN e j)) (.own id 1) ∧ σ.K id = true)) 7 ⟨0, .sl [] .ex, by simp, by simp [*], by simp [*, encC_eq], by simp [*], by omega, by simp [*], .inl ⟨rfl, rfl⟩⟩ ?_
  rintro n σ ⟨j, v, rfl, g1, m1, g5, g6, g8, g7⟩
  rw [encC_eq] at m1
  by_cases hj : j < 7
  · have hj7 : (j : Int) + 1 ≤ 7 := by omega
    have hw : IntKind.i64.wrap ((j : Int) + 1 + 1) = (j : Int) + 1 + 1 := wrap64 (by omega) (by omega)
    have hlen := whN_len e j
    have hcap : ((whN e j).length + 1) * 8 ≤ 140737488355328 := by omega
    obtain ⟨n0, his⟩ := is_r (k := (j : Int) + 1) ⟨by omega, by omega⟩ w
    have hst : whN e (j + 1) = whN e j ++ (if validB ((j : Int) + 1) e = true then [(j : Int) + 1] else []) := rfl
    cases hvb : validB ((j : Int) + 1) e with
    | true =>
      rw [hvb] at his hst
      have hn : Hold (whN e (j + 1) = whN e j ++ [(j : Int) + 1]) := hst
      clear hvb hst hv
      rcases g7 with ⟨h0, rfl⟩ | ⟨id, rfl, hKt⟩
      · repeat' (first | (with_reducible refine T.sq fun K hK => ?_) | ((first | ((with_reducible refine T.reg hE ?hd ?_); (case hd => kernel_rfl)) | ((with_reducible refine T.any hE mixed ?hd ?hok ?_); (case hd => kernel_rfl); (case hok => kernel_rfl))); simp [*]; (repeat' (split; all_goals (rename_i hc; try simp [*])))) | ((with_reducible refine T.ret ?_); refine fin_pure ?_; simp [*]; try (change Hold _)) | (with_reducible refine T.block ?_) | ((with_reducible refine T.skip ?_); simp [*]) | ((with_reducible refine T.exit ?_); simp [*]) | ((with_reducible refine T.br fun K1 K2 hK1 hK2 => ?_); simp [*]; try ((refine Br.intro (fun hc => ?_) (fun hc => ?_)) <;> (try simp at hc))) | (with_reducible refine Cont.go (by assumption) _ ?_) | (with_reducible refine Cnt.go (by assumption) ?_))
        exact ⟨_, by omega, j + 1, rfl, by simp [encC_eq], by omega, by omega, _, ⟨by unfold Hold at hn; rw [hn, h0]; rfl, rfl⟩, .inl rfl⟩
      · repeat' (first | (with_reducible refine T.sq fun K hK => ?_) | ((first | ((with_reducible refine T.reg hE ?hd ?_); (case hd => kernel_rfl)) | ((with_reducible refine T.any hE mixed ?hd ?hok ?_); (case hd => kernel_rfl); (case hok => kernel_rfl))); simp [*]; (repeat' (split; all_goals (rename_i hc; try simp [*])))) | ((with_reducible refine T.ret ?_); refine fin_pure ?_; simp [*]; try (change Hold _)) | (with_reducible refine T.block ?_) | ((with_reducible refine T.skip ?_); simp [*]) | ((with_reducible refine T.exit ?_); simp [*]) | ((with_reducible refine T.br fun K1 K2 hK1 hK2 => ?_); simp [*]; try ((refine Br.intro (fun hc => ?_) (fun hc => ?_)) <;> (try simp at hc))) | (with_reducible refine Cont.go (by assumption) _ ?_) | (with_reducible refine Cnt.go (by assumption) ?_))
        exact ⟨_, by omega, j + 1, rfl, by simp [encC_eq], by omega, by omega, _, ⟨by unfold Hold at hn; rw [hn, encI_snoc'], rfl⟩, .inl rfl⟩
    | false =>
      rw [hvb] at his hst
      have hn : Hold (whN e (j + 1) = whN e j) := hst.trans (List.append_nil _)
      clear hvb hst hv
      rcases g7 with ⟨h0, rfl⟩ | ⟨id, rfl, hKt⟩
      · repeat' (first | (with_reducible refine T.sq fun K hK => ?_) | ((first | ((with_reducible refine T.reg hE ?hd ?_); (case hd => kernel_rfl)) | ((with_reducible refine T.any hE mixed ?hd ?hok ?_); (case hd => kernel_rfl); (case hok => kernel_rfl))); simp [*]; (repeat' (split; all_goals (rename_i hc; try simp [*])))) | ((with_reducible refine T.ret ?_); refine fin_pure ?_; simp [*]; try (change Hold _)) | (with_reducible refine T.block ?_) | ((with_reducible refine T.skip ?_); simp [*]) | ((with_reducible refine T.exit ?_); simp [*]) | ((with_reducible refine T.br fun K1 K2 hK1 hK2 => ?_); simp [*]; try ((refine Br.intro (fun hc => ?_) (fun hc => ?_)) <;> (try simp at hc))) | (with_reducible refine Cont.go (by assumption) _ ?_) | (with_reducible refine Cnt.go (by assumption) ?_))
        exact ⟨_, by omega, j + 1, rfl, by simp [encC_eq], by omega, by omega, by unfold Hold at hn ⊢; rw [hn, h0]⟩
      · repeat' (first | (with_reducible refine T.sq fun K hK => ?_) | ((first | ((with_reducible refine T.reg hE ?hd ?_); (case hd => kernel_rfl)) | ((with_reducible refine T.any hE mixed ?hd ?hok ?_); (case hd => kernel_rfl); (case hok => kernel_rfl))); simp [*]; (repeat' (split; all_goals (rename_i hc; try simp [*])))) | ((with_reducible refine T.ret ?_); refine fin_pure ?_; simp [*]; try (change Hold _)) | (with_reducible refine T.block ?_) | ((with_reducible refine T.skip ?_); simp [*]) | ((with_reducible refine T.exit ?_); simp [*]) | ((with_reducible refine T.br fun K1 K2 hK1 hK2 => ?_); simp [*]; try ((refine Br.intro (fun hc => ?_) (fun hc => ?_)) <;> (try simp at hc))) | (with_reducible refine Cont.go (by assumption) _ ?_) | (with_reducible refine Cnt.go (by assumption) ?_))
        exact ⟨_, by omega, j + 1, rfl, by simp [encC_eq], by omega, by omega, _, ⟨by unfold Hold at hn; rw [hn], rfl⟩, hKt⟩
  · have w8 : j = 7 := by omega
    subst w8
    rcases g7 with ⟨h0, rfl⟩ | ⟨id, rfl, hKt⟩
    · rw [h0] at hv
      clear h0
      repeat' (first | (with_reducible refine T.sq fun K hK => ?_) | ((first | ((with_reducible refine T.reg hE ?hd ?_); (case hd => kernel_rfl)) | ((with_reducible refine T.any hE mixed ?hd ?hok ?_); (case hd => kernel_rfl); (case hok => kernel_rfl))); simp [*]; (repeat' (split; all_goals (rename_i hc; try simp [*])))) | ((with_reducible refine T.ret ?_); refine fin_pure ?_; simp [*]; try (change Hold _)) | (with_reducible refine T.block ?_) | ((with_reducible refine T.skip ?_); simp [*]) | ((with_reducible refine T.exit ?_); simp [*]) | ((with_reducible refine T.br fun K1 K2 hK1 hK2 => ?_); simp [*]; try ((refine Br.intro (fun hc => ?_) (fun hc => ?_)) <;> (try simp at hc))) | (with_reducible refine Cont.go (by assumption) _ ?_) | (with_reducible refine Cnt.go (by assumption) ?_))
      all_goals (unfold Hold at *; rw [hv]; try simp)
    · repeat' (first | (with_reducible refine T.sq fun K hK => ?_) | ((first | ((with_reducible refine T.reg hE ?hd ?_); (case hd => kernel_rfl)) | ((with_reducible refine T.any hE mixed ?hd ?hok ?_); (case hd => kernel_rfl); (case hok => kernel_rfl))); simp [*]; (repeat' (split; all_goals (rename_i hc; try simp [*])))) | ((with_reducible refine T.ret ?_); refine fin_pure ?_; simp [*]; try (change Hold _)) | (with_reducible refine T.block ?_) | ((with_reducible refine T.skip ?_); simp [*]) | ((with_reducible refine T.exit ?_); simp [*]) | ((with_reducible refine T.br fun K1 K2 hK1 hK2 => ?_); simp [*]; try ((refine Br.intro (fun hc => ?_) (fun hc => ?_)) <;> (try simp at hc))) | (with_reducible refine Cont.go (by assumption) _ ?_) | (with_reducible refine Cnt.go (by assumption) ?_))
      all_goals (unfold Hold at *; rw [hv]; try simp)
set_option maxHeartbeats 1000000 in
theorem ok_SchemaWhich : PureOk Tryz.prog 4 (f1 kE fun _ => some (.bool true)) := by
  intro args r h
  obtain ⟨e, rfl, ⟨⟩⟩ := f1_inv h; clear h
  have hE := ((((EnvOk.nil (P := Tryz.prog) (eq := fun _ => false) (own := fun _ => false) (mem := fun _ => false) EqOk.none).addf ok_WhichS).addf ok_rWhichS).addf ok_sameI)
  refine ⟨⟨Tryz.f4, Tryz.func4, by decide, rfl⟩, pure_of_T Tryz.func4 rfl (by simp [Tryz.ntmps4]) fun q => ?_⟩
  obtain ⟨l, n, hwv, hl⟩ : ∃ l n, whV e = .tup [.sl (encI .i64 l) .no, .int .i64 n] ∧ l.length ≤ 1000 := by
    unfold whV
    split
    · exact ⟨_, _, rfl, Nat.le_trans (whN_len e 7) (by omega)⟩
    · exact ⟨[], _, rfl, by simp⟩
  have hok : okSI l l := ⟨rfl, hl⟩
  repeat' (first | (with_reducible refine T.sq fun K hK => ?_) | ((first | ((with_reducible refine T.reg hE ?hd ?_); (case hd => kernel_rfl)) | ((with_reducible refine T.any hE mixed ?hd ?hok ?_); (case hd => kernel_rfl); (case hok => kernel_rfl))); simp [*]; (repeat' (split; all_goals (rename_i hc; try simp [*])))) | ((with_reducible refine T.ret ?_); refine fin_pure ?_; simp [*]; try (change Hold _)) | (with_reducible refine T.block ?_) | ((with_reducible refine T.skip ?_); simp [*]) | ((with_reducible refine T.exit ?_); simp [*]) | ((with_reducible refine T.br fun K1 K2 hK1 hK2 => ?_); simp [*]; try ((refine Br.intro (fun hc => ?_) (fun hc => ?_)) <;> (try simp at hc))) | (with_reducible refine Cont.go (by assumption) _ ?_) | (with_reducible refine Cnt.go (by assumption) ?_))
  all_goals (unfold Hold; first | rfl | (simp [*]; done))
theorem gs_len (k : Int) (e : Ex) : (gs k e).1.length ≤ 1000 := by
  unfold gs
  repeat' split
  all_goals simp
set_option maxHeartbeats 1000000 in
theorem ok_SchemaParts : PureOk Tryz.prog 6 (f2 (kI .i64) kE fun _ _ => some (.bool true)) := by
  intro args r h
  obtain ⟨k, e, rfl, ⟨⟩⟩ := f2_inv h; clear h
  have hE := ((((((EnvOk.nil (P := Tryz.prog) (eq := fun _ => false) (own := fun _ => false) (mem := fun _ => false) EqOk.none).addf ok_PartsS).addf ok_rPartsS).addf ok_IsS).addf ok_rIsS).addf ok_sameP)
  refine ⟨⟨Tryz.f6, Tryz.func6, by decide, rfl⟩, pure_of_T Tryz.func6 rfl (by simp [Tryz.ntmps6]) fun q => ?_⟩
  obtain ⟨l, x, n, hp, hl⟩ : ∃ l x n, ptRes k e = .tup [.agg [.sl (encL l) .no, .int .i64 x], .int .i64 n] ∧ l.length ≤ 1000 := by
    refine ⟨_, _, _, rfl, ?_⟩
    unfold ptP; split
    · exact gs_len k e
    · simp
  obtain ⟨b, m, hi⟩ : ∃ b m, isR k e = .tup [.bool b, .int .i64 m] := ⟨_, _, rfl⟩
  have hok : okPP (l, x) (l, x) := ⟨rfl, hl⟩
  repeat' (first | (with_reducible refine T.sq fun K hK => ?_) | ((first | ((with_reducible refine T.reg hE ?hd ?_); (case hd => kernel_rfl)) | ((with_reducible refine T.any hE mixed ?hd ?hok ?_); (case hd => kernel_rfl); (case hok => kernel_rfl))); simp [*]; (repeat' (split; all_goals (rename_i hc; try simp [*])))) | ((with_reducible refine T.ret ?_); refine fin_pure ?_; simp [*]; try (change Hold _)) | (with_reducible refine T.block ?_) | ((with_reducible refine T.skip ?_); simp [*]) | ((with_reducible refine T.exit ?_); simp [*]) | ((with_reducible refine T.br fun K1 K2 hK1 hK2 => ?_); simp [*]; try ((refine Br.intro (fun hc => ?_) (fun hc => ?_)) <;> (try simp at hc))) | (with_reducible refine Cont.go (by assumption) _ ?_) | (with_reducible refine Cnt.go (by assumption) ?_))
  all_goals (unfold Hold; first | rfl | (simp [*]; done))
end Go.Proofs.YtibfdebhbibfpaaGreat.Ax
