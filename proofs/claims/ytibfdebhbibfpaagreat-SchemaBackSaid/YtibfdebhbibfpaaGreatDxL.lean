/- Contracts: Parts, Is by the reference; SchemaParts. -/
import Derived.Test.YtibfdebhbibfpaaGreatDxK
set_option linter.unusedVariables false
set_option linter.unusedSimpArgs false
namespace Go.Proofs.YtibfdebhbibfpaaGreat.Ax
open Go Go.Proofs

def okY (e : Ex) : Prop := allX e = true ∨ e = ex0
noncomputable instance (e : Ex) : Decidable (okY e) := Classical.propDecidable _
@[simp] noncomputable def gSetY : List V → Option V := f1 kE fun e => if okY e then some (.int .u64 (frE e : Nat)) else none
theorem ok_free0 : Okat Tryz.prog 160 [enc ex0] (.int .u64 0) := by
  have hE := (((((EnvOk.nil (P := Tryz.prog) (eq := fun _ => false) (own := fun _ => false) (mem := fun _ => false) EqOk.none).addf ok_rQuant).addf ok_rPow).addf ok_rUnion).addf ok_rWithout)
  refine ⟨⟨Tryz.f160, Tryz.func160, by decide, rfl⟩, pure_of_T Tryz.func160 rfl (by simp [Tryz.ntmps160]) fun q => ?_⟩
  unfold ex0
  repeat' (first | (with_reducible refine T.sq fun K hK => ?_) | ((first | ((with_reducible refine T.reg hE ?hd ?_); (case hd => kernel_rfl)) | ((with_reducible refine T.any hE mixed ?hd ?hok ?_); (case hd => kernel_rfl); (case hok => kernel_rfl))); simp [*]; (repeat' (split; all_goals (rename_i hc; try simp [*])))) | ((with_reducible refine T.ret ?_); refine fin_pure ?_; simp [*]; try (change Hold _)) | (with_reducible refine T.block ?_) | ((with_reducible refine T.skip ?_); simp [*]) | ((with_reducible refine T.exit ?_); simp [*]) | ((with_reducible refine T.br fun K1 K2 hK1 hK2 => ?_); simp [*]; try ((refine Br.intro (fun hc => ?_) (fun hc => ?_)) <;> (try simp at hc))) | (with_reducible refine Cont.go (by assumption) _ ?_) | (with_reducible refine Cnt.go (by assumption) ?_))
  refine T.loop (fun n σ => n = 0 ∧ σ.get 13 = .sl [] .no ∧ σ.get 14 = .int .i64 0 ∧ σ.get 15 = .int .i64 0 ∧ σ.get 3 = .int .u64 0 ∧ σ.get 1 = .ptr (0 :: 3 :: q) 0 ∧ σ.M (0 :: 3 :: q) = some (.cells [.int .i64 0, .int .i64 0, .sl [] .no])) 0 ⟨rfl, by simp, by simp, by simp, by simp, by simp, by simp⟩ ?_
  rintro n σ ⟨rfl, g1, g2, g3, g4, g5, g6⟩
  have hd : decL [] = some [] := decL_nil
  have hq : isQ (.mk 0 0 []) = false := rfl
  repeat' (first | (with_reducible refine T.sq fun K hK => ?_) | ((first | ((with_reducible refine T.reg hE ?hd ?_); (case hd => kernel_rfl)) | ((with_reducible refine T.any hE mixed ?hd ?hok ?_); (case hd => kernel_rfl); (case hok => kernel_rfl))); simp [*]; (repeat' (split; all_goals (rename_i hc; try simp [*])))) | ((with_reducible refine T.ret ?_); refine fin_pure ?_; simp [*]; try (change Hold _)) | (with_reducible refine T.block ?_) | ((with_reducible refine T.skip ?_); simp [*]) | ((with_reducible refine T.exit ?_); simp [*]) | ((with_reducible refine T.br fun K1 K2 hK1 hK2 => ?_); simp [*]; try ((refine Br.intro (fun hc => ?_) (fun hc => ?_)) <;> (try simp at hc))) | (with_reducible refine Cont.go (by assumption) _ ?_) | (with_reducible refine Cnt.go (by assumption) ?_))
theorem ok_rFreeY : PureOk Tryz.prog 160 gSetY := by
  intro args r h
  obtain ⟨e, rfl, hr⟩ := f1_inv h; clear h
  split at hr
  · rename_i hm
    cases hr
    rcases hm with hm | rfl
    · have hok : okX e := hm
      exact ok_rFreeS _ _ (by simp [hok])
    · exact ok_free0
  · cases hr
theorem frY_lt {e : Ex} (h : okY e) : frE e < 18446744073709551616 := by
  rcases h with h | rfl
  · exact frE_lt h
  · decide
@[simp] noncomputable def gIsFreeY : List V → Option V := f2 (kI .i64) kE fun x e => if okY e then some (.bool (hasB (frE e) x)) else none
theorem ok_rIsFreeY : PureOk Tryz.prog 99 gIsFreeY := by
  intro args r h
  obtain ⟨x, e, rfl, hr⟩ := f2_inv h; clear h
  split at hr
  · rename_i hm
    cases hr
    have hE := (((EnvOk.nil (P := Tryz.prog) (eq := fun _ => false) (own := fun _ => false) (mem := fun _ => false) EqOk.none).addf ok_rFreeY).addf ok_rHas)
    refine ⟨⟨Tryz.f99, Tryz.func99, by decide, rfl⟩, pure_of_T Tryz.func99 rfl (by simp [Tryz.ntmps99]) fun q => ?_⟩
    have hu := u64_nat (frY_lt hm)
    repeat' (first | (with_reducible refine T.sq fun K hK => ?_) | ((first | ((with_reducible refine T.reg hE ?hd ?_); (case hd => kernel_rfl)) | ((with_reducible refine T.any hE mixed ?hd ?hok ?_); (case hd => kernel_rfl); (case hok => kernel_rfl))); simp [*]; (repeat' (split; all_goals (rename_i hc; try simp [*])))) | ((with_reducible refine T.ret ?_); refine fin_pure ?_; simp [*]; try (change Hold _)) | (with_reducible refine T.block ?_) | ((with_reducible refine T.skip ?_); simp [*]) | ((with_reducible refine T.exit ?_); simp [*]) | ((with_reducible refine T.br fun K1 K2 hK1 hK2 => ?_); simp [*]; try ((refine Br.intro (fun hc => ?_) (fun hc => ?_)) <;> (try simp at hc))) | (with_reducible refine Cont.go (by assumption) _ ?_) | (with_reducible refine Cnt.go (by assumption) ?_))
  · cases hr
/-! ### Down a path -/
def kdP (e : Ex) (ps : List Int) : Ex := ps.foldl (fun e p => kd e p.toNat) e
def okPs (ps : List Int) : Prop := ps.length ≤ 8 ∧ ∀ p ∈ ps, 0 ≤ p
noncomputable instance (ps : List Int) : Decidable (okPs ps) := Classical.propDecidable _
@[simp] noncomputable def gKid : List V → Option V := f2 kE (kIs .i64) fun e ps => if okPs ps then some (enc (kdP e ps)) else none
theorem kd_none {e : Ex} {n : Nat} (h : e.kids.length ≤ n) : kd e n = ex0 := by unfold kd; rw [List.getD_eq_getElem?_getD, List.getElem?_eq_none h]; rfl
theorem kdP_ex0 (ps : List Int) : kdP ex0 ps = ex0 := by
  induction ps with
  | nil => rfl
  | cons p ps ih => unfold kdP at *; rw [List.foldl_cons, kd_none (by simp [ex0])]; exact ih
theorem kdP_step (e : Ex) (ps : List Int) (j : Nat) (h : j < ps.length) : kdP e (ps.drop j) = kdP (kd e ps[j].toNat) (ps.drop (j + 1)) := by
  rw [List.drop_eq_getElem_cons h]; rfl
set_option maxHeartbeats 1000000 in
theorem ok_rKid : PureOk Tryz.prog 133 gKid := by
  intro args r h
  obtain ⟨e, ps, rfl, hr⟩ := f2_inv h; clear h
  split at hr
  · rename_i hm
    obtain ⟨hl8, hok⟩ := hm
    cases hr
    have hE := (EnvOk.nil (P := Tryz.prog) (eq := fun _ => false) (own := fun _ => false) (mem := fun _ => false) EqOk.none)
    refine ⟨⟨Tryz.f133, Tryz.func133, by decide, rfl⟩, pure_of_T Tryz.func133 rfl (by simp [Tryz.ntmps133]) fun q => ?_⟩
    repeat' (first | (with_reducible refine T.sq fun K hK => ?_) | ((first | ((with_reducible refine T.reg hE ?hd ?_); (case hd => kernel_rfl)) | ((with_reducible refine T.any hE mixed ?hd ?hok ?_); (case hd => kernel_rfl); (case hok => kernel_rfl))); simp [*]; (repeat' (split; all_goals (rename_i hc; try simp [*])))) | ((with_reducible refine T.ret ?_); refine fin_pure ?_; simp [*]; try (change Hold _)) | (with_reducible refine T.block ?_) | ((with_reducible refine T.skip ?_); simp [*]) | ((with_reducible refine T.exit ?_); simp [*]) | ((with_reducible refine T.br fun K1 K2 hK1 hK2 => ?_); simp [*]; try ((refine Br.intro (fun hc => ?_) (fun hc => ?_)) <;> (try simp at hc))) | (with_reducible refine Cont.go (by assumption) _ ?_) | (with_reducible refine Cnt.go (by assumption) ?_))
    refine T.loop (fun n σ => ∃ (j : Nat) (c : Ex), n = ps.length - j ∧ σ.get 2 = .ptr (0 :: 4 :: q) 0 ∧ σ.M (0 :: 4 :: q) = some (.cells (encC c)) ∧ σ.get 4 = .ptr (0 :: 6 :: q) 0 ∧ (∃ c0 c1 c2, σ.M (0 :: 6 :: q) = some (.cells [c0, c1, c2])) ∧ σ.get 7 = .sl (encI .i64 ps) .no ∧ σ.get 8 = .int .i64 ps.length ∧ σ.get 9 = .int .i64 j ∧ j ≤ ps.length ∧ Hold (kdP e ps = kdP c (ps.drop j))) ps.length ⟨0, e, by simp, by simp [*], by simp [*, encC_eq], by simp [*], by simp [*], by simp [*], by simp [*], by simp [*], by omega, rfl⟩ ?_
    rintro n σ ⟨j, c, rfl, g2, m1, g3, ⟨c0, c1, c2, m2⟩, g4, g5, g6, g7, g9⟩
    rw [encC_eq] at m1
    by_cases hj : j < ps.length
    · have hw : IntKind.i64.wrap ((j : Int) + 1) = (j : Int) + 1 := wrap64 (by omega) (by omega)
      have hst := kdP_step c ps j hj
      obtain ⟨m, hm⟩ := Int.eq_ofNat_of_zero_le (hok ps[j] (List.getElem_mem hj))
      rw [hm, Int.toNat_natCast] at hst
      by_cases hmc : m < c.kids.length
      · have hmci : (m : Int) < (c.kids.length : Int) := by omega
        have hmcn : ¬ (c.kids.length : Int) ≤ (m : Int) := by omega
        have hkd : kd c m = c.kids[m] := by unfold kd; simp [List.getD_eq_getElem?_getD, hmc]
        rw [hkd] at hst
        have hn : Hold (kdP e ps = kdP c.kids[m] (ps.drop (j + 1))) := by unfold Hold at *; rw [g9, hst]
        clear hst g9 hok hkd
        repeat' (first | (with_reducible refine T.sq fun K hK => ?_) | ((first | ((with_reducible refine T.reg hE ?hd ?_); (case hd => kernel_rfl)) | ((with_reducible refine T.any hE mixed ?hd ?hok ?_); (case hd => kernel_rfl); (case hok => kernel_rfl))); simp [*]; (repeat' (split; all_goals (rename_i hc; try simp [*])))) | ((with_reducible refine T.ret ?_); refine fin_pure ?_; simp [*]; try (change Hold _)) | (with_reducible refine T.block ?_) | ((with_reducible refine T.skip ?_); simp [*]) | ((with_reducible refine T.exit ?_); simp [*]) | ((with_reducible refine T.br fun K1 K2 hK1 hK2 => ?_); simp [*]; try ((refine Br.intro (fun hc => ?_) (fun hc => ?_)) <;> (try simp at hc))) | (with_reducible refine Cont.go (by assumption) _ ?_) | (with_reducible refine Cnt.go (by assumption) ?_))
        exact ⟨_, by omega, j + 1, rfl, c.kids[m], by simp [encC_eq], by omega, by omega, hn⟩
      · have hmci : (c.kids.length : Int) ≤ (m : Int) := by omega
        rw [kd_none (by omega), kdP_ex0] at hst
        have hn : Hold (kdP e ps = ex0) := by unfold Hold at *; rw [g9, hst]
        clear hst g9 hok
        repeat' (first | (with_reducible refine T.sq fun K hK => ?_) | ((first | ((with_reducible refine T.reg hE ?hd ?_); (case hd => kernel_rfl)) | ((with_reducible refine T.any hE mixed ?hd ?hok ?_); (case hd => kernel_rfl); (case hok => kernel_rfl))); simp [*]; (repeat' (split; all_goals (rename_i hc; try simp [*])))) | ((with_reducible refine T.ret ?_); refine fin_pure ?_; simp [*]; try (change Hold _)) | (with_reducible refine T.block ?_) | ((with_reducible refine T.skip ?_); simp [*]) | ((with_reducible refine T.exit ?_); simp [*]) | ((with_reducible refine T.br fun K1 K2 hK1 hK2 => ?_); simp [*]; try ((refine Br.intro (fun hc => ?_) (fun hc => ?_)) <;> (try simp at hc))) | (with_reducible refine Cont.go (by assumption) _ ?_) | (with_reducible refine Cnt.go (by assumption) ?_))
        all_goals (unfold Hold at *; rw [hn]; try simp [ex0])
    · have w8 : j = ps.length := by omega
      have hn : Hold (kdP e ps = c) := by unfold Hold at *; rw [g9, w8, List.drop_length]; rfl
      clear g9 hok
      repeat' (first | (with_reducible refine T.sq fun K hK => ?_) | ((first | ((with_reducible refine T.reg hE ?hd ?_); (case hd => kernel_rfl)) | ((with_reducible refine T.any hE mixed ?hd ?hok ?_); (case hd => kernel_rfl); (case hok => kernel_rfl))); simp [*]; (repeat' (split; all_goals (rename_i hc; try simp [*])))) | ((with_reducible refine T.ret ?_); refine fin_pure ?_; simp [*]; try (change Hold _)) | (with_reducible refine T.block ?_) | ((with_reducible refine T.skip ?_); simp [*]) | ((with_reducible refine T.exit ?_); simp [*]) | ((with_reducible refine T.br fun K1 K2 hK1 hK2 => ?_); simp [*]; try ((refine Br.intro (fun hc => ?_) (fun hc => ?_)) <;> (try simp at hc))) | (with_reducible refine Cont.go (by assumption) _ ?_) | (with_reducible refine Cnt.go (by assumption) ?_))
      all_goals (unfold Hold at *; rw [hn]; try simp)
  · cases hr
/-! ### What stands for a variable -/
def rsV (a b : Ex) (x : Int) : V := match rsE a b x with
  | some t => .tup [enc t, .bool true]
  | none => .tup [enc ex0, .bool false]
@[simp] noncomputable def gRs : List V → Option V := f3 kE kE (kI .i64) fun a b x => if okY a then some (rsV a b x) else none
theorem rsL_drop (l m : List Ex) (x : Int) (j : Nat) (h1 : j < l.length) (h2 : j < m.length) : rsL (l.drop j) (m.drop j) x = if hasB (frE l[j]) x = true then rsE l[j] m[j] x else rsL (l.drop (j + 1)) (m.drop (j + 1)) x := by
  rw [List.drop_eq_getElem_cons h1, List.drop_eq_getElem_cons h2, rsL]
theorem rs_tup (a b : Ex) (x : Int) : ∃ t ok, rsV a b x = .tup [enc t, .bool ok] := by
  unfold rsV
  cases rsE a b x with
  | some t => exact ⟨t, true, rfl⟩
  | none => exact ⟨ex0, false, rfl⟩
set_option maxHeartbeats 2000000 in
theorem ok_rStands : PureOk Tryz.prog 134 gRs := by
  refine rec3 fun a ih b x r hr => ?_
  split at hr
  · rename_i hm
    have hy : okY a := hm
    cases hr
    have hE := (((EnvOk.nil (P := Tryz.prog) (eq := fun _ => false) (own := fun _ => false) (mem := fun _ => false) EqOk.none).addf ok_rIsFreeY).addf ih)
    refine ⟨⟨Tryz.f134, Tryz.func134, by decide, rfl⟩, pure_of_T Tryz.func134 rfl (by simp [Tryz.ntmps134]) fun q => ?_⟩
    have hse := rsE_eq a b x
    by_cases c1 : hasB (frE a) x = true
    rotate_left
    · rw [Bool.not_eq_true] at c1
      have hv : Hold (rsV a b x = .tup [enc ex0, .bool false]) := by unfold Hold rsV; rw [rs_none c1]
      clear hse
      repeat' (first | (with_reducible refine T.sq fun K hK => ?_) | ((first | ((with_reducible refine T.reg hE ?hd ?_); (case hd => kernel_rfl)) | ((with_reducible refine T.any hE mixed ?hd ?hok ?_); (case hd => kernel_rfl); (case hok => kernel_rfl))); simp [*]; (repeat' (split; all_goals (rename_i hc; try simp [*])))) | ((with_reducible refine T.ret ?_); refine fin_pure ?_; simp [*]; try (change Hold _)) | (with_reducible refine T.block ?_) | ((with_reducible refine T.skip ?_); simp [*]) | ((with_reducible refine T.exit ?_); simp [*]) | ((with_reducible refine T.br fun K1 K2 hK1 hK2 => ?_); simp [*]; try ((refine Br.intro (fun hc => ?_) (fun hc => ?_)) <;> (try simp at hc))) | (with_reducible refine Cont.go (by assumption) _ ?_) | (with_reducible refine Cnt.go (by assumption) ?_))
      all_goals (unfold Hold at *; rw [hv]; try simp [ex0])
    have ha : allX a = true := by
      rcases hm with h | rfl
      · exact h
      · have h0 : frE ex0 = 0 := rfl
        rw [h0] at c1; simp [hasB] at c1
    by_cases k1 : a.k = 1
    · have hv : Hold (rsV a b x = .tup [enc b, .bool true]) := by
        have : rsE a b x = some b := by rw [hse, if_neg (by simp [c1, k1]), if_pos k1]
        unfold Hold rsV; rw [this]
      have e1 : Ex.mk 1 a.i a.kids = a := by rw [← k1, Ex.eta]
      clear hse
      repeat' (first | (with_reducible refine T.sq fun K hK => ?_) | ((first | ((with_reducible refine T.reg hE ?hd ?_); (case hd => kernel_rfl)) | ((with_reducible refine T.any hE mixed ?hd ?hok ?_); (case hd => kernel_rfl); (case hok => kernel_rfl))); simp [*]; (repeat' (split; all_goals (rename_i hc; try simp [*])))) | ((with_reducible refine T.ret ?_); refine fin_pure ?_; simp [*]; try (change Hold _)) | (with_reducible refine T.block ?_) | ((with_reducible refine T.skip ?_); simp [*]) | ((with_reducible refine T.exit ?_); simp [*]) | ((with_reducible refine T.br fun K1 K2 hK1 hK2 => ?_); simp [*]; try ((refine Br.intro (fun hc => ?_) (fun hc => ?_)) <;> (try simp at hc))) | (with_reducible refine Cont.go (by assumption) _ ?_) | (with_reducible refine Cnt.go (by assumption) ?_))
      all_goals (unfold Hold at *; rw [hv]; try simp)
    by_cases e2 : b.kids.length = a.kids.length
    rotate_left
    · have hv : Hold (rsV a b x = .tup [enc ex0, .bool false]) := by
        have : rsE a b x = none := by rw [hse, if_pos (.inr ⟨k1, fun h => e2 h.symm⟩)]
        unfold Hold rsV; rw [this]
      have e3 : ¬ (a.kids.length : Int) = (b.kids.length : Int) := by omega
      have e4 : ¬ a.kids.length = b.kids.length := by omega
      clear hse
      repeat' (first | (with_reducible refine T.sq fun K hK => ?_) | ((first | ((with_reducible refine T.reg hE ?hd ?_); (case hd => kernel_rfl)) | ((with_reducible refine T.any hE mixed ?hd ?hok ?_); (case hd => kernel_rfl); (case hok => kernel_rfl))); simp [*]; (repeat' (split; all_goals (rename_i hc; try simp [*])))) | ((with_reducible refine T.ret ?_); refine fin_pure ?_; simp [*]; try (change Hold _)) | (with_reducible refine T.block ?_) | ((with_reducible refine T.skip ?_); simp [*]) | ((with_reducible refine T.exit ?_); simp [*]) | ((with_reducible refine T.br fun K1 K2 hK1 hK2 => ?_); simp [*]; try ((refine Br.intro (fun hc => ?_) (fun hc => ?_)) <;> (try simp at hc))) | (with_reducible refine Cont.go (by assumption) _ ?_) | (with_reducible refine Cnt.go (by assumption) ?_))
      all_goals (unfold Hold at *; rw [hv]; try simp [ex0])
    have hv1 : Hold (rsV a b x = match rsL a.kids b.kids x with | some t => .tup [enc t, .bool true] | none => .tup [enc ex0, .bool false]) := by
      have : rsE a b x = rsL a.kids b.kids x := by rw [hse, if_neg (by simp [c1, e2]), if_neg k1]
      unfold Hold rsV; rw [this]
    have hk4 := kids_four ha
    clear hse
    repeat' (first | (with_reducible refine T.sq fun K hK => ?_) | ((first | ((with_reducible refine T.reg hE ?hd ?_); (case hd => kernel_rfl)) | ((with_reducible refine T.any hE mixed ?hd ?hok ?_); (case hd => kernel_rfl); (case hok => kernel_rfl))); simp [*]; (repeat' (split; all_goals (rename_i hc; try simp [*])))) | ((with_reducible refine T.ret ?_); refine fin_pure ?_; simp [*]; try (change Hold _)) | (with_reducible refine T.block ?_) | ((with_reducible refine T.skip ?_); simp [*]) | ((with_reducible refine T.exit ?_); simp [*]) | ((with_reducible refine T.br fun K1 K2 hK1 hK2 => ?_); simp [*]; try ((refine Br.intro (fun hc => ?_) (fun hc => ?_)) <;> (try simp at hc))) | (with_reducible refine Cont.go (by assumption) _ ?_) | (with_reducible refine Cnt.go (by assumption) ?_))
    refine T.loop (fun n σ => ∃ (j : Nat), n = a.kids.length - j ∧ σ.get 2 = .int .i64 x ∧ σ.get 3 = .ptr (0 :: 5 :: q) 0 ∧ σ.M (0 :: 5 :: q) = some (.cells (encC a)) ∧ σ.get 4 = .ptr (0 :: 6 :: q) 0 ∧ σ.M (0 :: 6 :: q) = some (.cells (encC b)) ∧ σ.get 6 = .ptr (0 :: 8 :: q) 0 ∧ (∃ c0 c1 c2, σ.M (0 :: 8 :: q) = some (.cells [c0, c1, c2])) ∧ σ.get 34 = .int .i64 a.kids.length ∧ σ.get 35 = .int .i64 j ∧ j ≤ a.kids.length ∧ Hold (rsL a.kids b.kids x = rsL (a.kids.drop j) (b.kids.drop j) x)) a.kids.length ⟨0, by simp, by simp [*], by simp [*], by simp [*, encC_eq], by simp [*], by simp [*, encC_eq], by simp [*], by simp [*], by simp [*], by simp [*], by omega, rfl⟩ ?_
    rintro n σ ⟨j, rfl, b2, b3, m3, b4, m4, b6, ⟨c0, c1', c2', m6⟩, b7, b8, b9, g9⟩
    rw [encC_eq] at m3 m4
    by_cases hj : j < a.kids.length
    · have hjb : j < b.kids.length := by omega
      have hji : (j : Int) < (a.kids.length : Int) := by omega
      have hw : IntKind.i64.wrap ((j : Int) + 1) = (j : Int) + 1 := wrap64 (by omega) (by omega)
      have hs2 := ex_kid_lt a j hj
      have hok : okY a.kids[j] := .inl (allX_kid ha j hj)
      have hd := rsL_drop a.kids b.kids x j hj hjb
      by_cases c : hasB (frE a.kids[j]) x = true
      · rw [if_pos c] at hd
        obtain ⟨t, ok, ht⟩ := rs_tup a.kids[j] b.kids[j] x
        have hv : Hold (rsV a b x = .tup [enc t, .bool ok]) := by
          unfold Hold at *
          rw [hv1, g9, hd, ← ht]; rfl
        clear hd hv1 g9
        repeat' (first | (with_reducible refine T.sq fun K hK => ?_) | ((first | ((with_reducible refine T.reg hE ?hd ?_); (case hd => kernel_rfl)) | ((with_reducible refine T.any hE mixed ?hd ?hok ?_); (case hd => kernel_rfl); (case hok => kernel_rfl))); simp [*]; (repeat' (split; all_goals (rename_i hc; try simp [*])))) | ((with_reducible refine T.ret ?_); refine fin_pure ?_; simp [*]; try (change Hold _)) | (with_reducible refine T.block ?_) | ((with_reducible refine T.skip ?_); simp [*]) | ((with_reducible refine T.exit ?_); simp [*]) | ((with_reducible refine T.br fun K1 K2 hK1 hK2 => ?_); simp [*]; try ((refine Br.intro (fun hc => ?_) (fun hc => ?_)) <;> (try simp at hc))) | (with_reducible refine Cont.go (by assumption) _ ?_) | (with_reducible refine Cnt.go (by assumption) ?_))
        all_goals (unfold Hold at *; rw [hv]; try simp)
      · rw [if_neg c] at hd
        rw [Bool.not_eq_true] at c
        have hn : Hold (rsL a.kids b.kids x = rsL (a.kids.drop (j + 1)) (b.kids.drop (j + 1)) x) := by unfold Hold at *; rw [g9, hd]
        clear hd g9
        repeat' (first | (with_reducible refine T.sq fun K hK => ?_) | ((first | ((with_reducible refine T.reg hE ?hd ?_); (case hd => kernel_rfl)) | ((with_reducible refine T.any hE mixed ?hd ?hok ?_); (case hd => kernel_rfl); (case hok => kernel_rfl))); simp [*]; (repeat' (split; all_goals (rename_i hc; try simp [*])))) | ((with_reducible refine T.ret ?_); refine fin_pure ?_; simp [*]; try (change Hold _)) | (with_reducible refine T.block ?_) | ((with_reducible refine T.skip ?_); simp [*]) | ((with_reducible refine T.exit ?_); simp [*]) | ((with_reducible refine T.br fun K1 K2 hK1 hK2 => ?_); simp [*]; try ((refine Br.intro (fun hc => ?_) (fun hc => ?_)) <;> (try simp at hc))) | (with_reducible refine Cont.go (by assumption) _ ?_) | (with_reducible refine Cnt.go (by assumption) ?_))
        exact ⟨_, by omega, j + 1, rfl, by simp [encC_eq], by simp [encC_eq], by omega, by omega, hn⟩
    · have w8 : j = a.kids.length := by omega
      have hv : Hold (rsV a b x = .tup [enc ex0, .bool false]) := by
        unfold Hold at *
        rw [hv1, g9, w8, List.drop_length]
        cases b.kids.drop a.kids.length <;> simp [rsL]
      clear hv1 g9
      repeat' (first | (with_reducible refine T.sq fun K hK => ?_) | ((first | ((with_reducible refine T.reg hE ?hd ?_); (case hd => kernel_rfl)) | ((with_reducible refine T.any hE mixed ?hd ?hok ?_); (case hd => kernel_rfl); (case hok => kernel_rfl))); simp [*]; (repeat' (split; all_goals (rename_i hc; try simp [*])))) | ((with_reducible refine T.ret ?_); refine fin_pure ?_; simp [*]; try (change Hold _)) | (with_reducible refine T.block ?_) | ((with_reducible refine T.skip ?_); simp [*]) | ((with_reducible refine T.exit ?_); simp [*]) | ((with_reducible refine T.br fun K1 K2 hK1 hK2 => ?_); simp [*]; try ((refine Br.intro (fun hc => ?_) (fun hc => ?_)) <;> (try simp at hc))) | (with_reducible refine Cont.go (by assumption) _ ?_) | (with_reducible refine Cnt.go (by assumption) ?_))
      all_goals (unfold Hold at *; rw [hv]; try simp [ex0])
  · cases hr

end Go.Proofs.YtibfdebhbibfpaaGreat.Ax
