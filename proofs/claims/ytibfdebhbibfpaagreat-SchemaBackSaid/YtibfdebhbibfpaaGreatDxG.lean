/- Contracts: Make, by the reference; SchemaMakes. -/
import Derived.Test.YtibfdebhbibfpaaGreatDxF
set_option linter.unusedVariables false
set_option linter.unusedSimpArgs false
namespace Go.Proofs.YtibfdebhbibfpaaGreat.Ax
open Go Go.Proofs

def okK (k : Int) : Prop := 1 ≤ k ∧ k ≤ 7
noncomputable instance (k : Int) : Decidable (okK k) := Classical.propDecidable _
theorem seven {k : Int} (h : okK k) : k = 1 ∨ k = 2 ∨ k = 3 ∨ k = 4 ∨ k = 5 ∨ k = 6 ∨ k = 7 := by
  obtain ⟨h1, h2⟩ := h; omega
@[simp] noncomputable def gSorts : List V → Option V := f1 (kI .i64) fun k => if okK k then some (.str (srtS k)) else none
theorem ok_rSorts : PureOk Tryz.prog 45 gSorts := by
  intro args r h
  obtain ⟨k, rfl, hr⟩ := f1_inv h; clear h
  split at hr
  · rename_i hk
    cases hr
    have hE := (EnvOk.nil (P := Tryz.prog) (eq := fun _ => false) (own := fun _ => false) (mem := fun _ => false) EqOk.none)
    refine ⟨⟨Tryz.f45, Tryz.func45, by decide, rfl⟩, pure_of_T Tryz.func45 rfl (by simp [Tryz.ntmps45]) fun q => ?_⟩
    rcases seven hk with rfl | rfl | rfl | rfl | rfl | rfl | rfl
    all_goals (
      clear hk
      repeat' (first | (with_reducible refine T.sq fun K hK => ?_) | ((first | ((with_reducible refine T.reg hE ?hd ?_); (case hd => kernel_rfl)) | ((with_reducible refine T.any hE mixed ?hd ?hok ?_); (case hd => kernel_rfl); (case hok => kernel_rfl))); simp [*]; (repeat' (split; all_goals (rename_i hc; try simp [*])))) | ((with_reducible refine T.ret ?_); refine fin_pure ?_; simp [*]; try (change Hold _)) | (with_reducible refine T.block ?_) | ((with_reducible refine T.skip ?_); simp [*]) | ((with_reducible refine T.exit ?_); simp [*]) | ((with_reducible refine T.br fun K1 K2 hK1 hK2 => ?_); simp [*]; try ((refine Br.intro (fun hc => ?_) (fun hc => ?_)) <;> (try simp at hc))) | (with_reducible refine Cont.go (by assumption) _ ?_) | (with_reducible refine Cnt.go (by assumption) ?_))
      all_goals (unfold Hold; rfl))
  · cases hr
@[simp] def gBound : List V → Option V := f1 (kI .i64) fun k => some (.bool (bndK k))
theorem ok_rBnd : PureOk Tryz.prog 46 gBound := by
  intro args r h
  obtain ⟨k, rfl, ⟨⟩⟩ := f1_inv h; clear h
  have hE := (EnvOk.nil (P := Tryz.prog) (eq := fun _ => false) (own := fun _ => false) (mem := fun _ => false) EqOk.none)
  refine ⟨⟨Tryz.f46, Tryz.func46, by decide, rfl⟩, pure_of_T Tryz.func46 rfl (by simp [Tryz.ntmps46]) fun q => ?_⟩
  by_cases c1 : k = 4
  · subst c1
    repeat' (first | (with_reducible refine T.sq fun K hK => ?_) | ((first | ((with_reducible refine T.reg hE ?hd ?_); (case hd => kernel_rfl)) | ((with_reducible refine T.any hE mixed ?hd ?hok ?_); (case hd => kernel_rfl); (case hok => kernel_rfl))); simp [*]; (repeat' (split; all_goals (rename_i hc; try simp [*])))) | ((with_reducible refine T.ret ?_); refine fin_pure ?_; simp [*]; try (change Hold _)) | (with_reducible refine T.block ?_) | ((with_reducible refine T.skip ?_); simp [*]) | ((with_reducible refine T.exit ?_); simp [*]) | ((with_reducible refine T.br fun K1 K2 hK1 hK2 => ?_); simp [*]; try ((refine Br.intro (fun hc => ?_) (fun hc => ?_)) <;> (try simp at hc))) | (with_reducible refine Cont.go (by assumption) _ ?_) | (with_reducible refine Cnt.go (by assumption) ?_))
    all_goals (unfold Hold; rfl)
  by_cases c2 : k = 5
  · subst c2
    repeat' (first | (with_reducible refine T.sq fun K hK => ?_) | ((first | ((with_reducible refine T.reg hE ?hd ?_); (case hd => kernel_rfl)) | ((with_reducible refine T.any hE mixed ?hd ?hok ?_); (case hd => kernel_rfl); (case hok => kernel_rfl))); simp [*]; (repeat' (split; all_goals (rename_i hc; try simp [*])))) | ((with_reducible refine T.ret ?_); refine fin_pure ?_; simp [*]; try (change Hold _)) | (with_reducible refine T.block ?_) | ((with_reducible refine T.skip ?_); simp [*]) | ((with_reducible refine T.exit ?_); simp [*]) | ((with_reducible refine T.br fun K1 K2 hK1 hK2 => ?_); simp [*]; try ((refine Br.intro (fun hc => ?_) (fun hc => ?_)) <;> (try simp at hc))) | (with_reducible refine Cont.go (by assumption) _ ?_) | (with_reducible refine Cnt.go (by assumption) ?_))
    all_goals (unfold Hold; rfl)
  have hb : Hold (bndK k = false) := by unfold Hold bndK; simp [c1, c2]
  repeat' (first | (with_reducible refine T.sq fun K hK => ?_) | ((first | ((with_reducible refine T.reg hE ?hd ?_); (case hd => kernel_rfl)) | ((with_reducible refine T.any hE mixed ?hd ?hok ?_); (case hd => kernel_rfl); (case hok => kernel_rfl))); simp [*]; (repeat' (split; all_goals (rename_i hc; try simp [*])))) | ((with_reducible refine T.ret ?_); refine fin_pure ?_; simp [*]; try (change Hold _)) | (with_reducible refine T.block ?_) | ((with_reducible refine T.skip ?_); simp [*]) | ((with_reducible refine T.exit ?_); simp [*]) | ((with_reducible refine T.br fun K1 K2 hK1 hK2 => ?_); simp [*]; try ((refine Br.intro (fun hc => ?_) (fun hc => ?_)) <;> (try simp at hc))) | (with_reducible refine Cont.go (by assumption) _ ?_) | (with_reducible refine Cnt.go (by assumption) ?_))
  all_goals (unfold Hold at *; rw [hb])
def okIn5 (a t : Ex) : Prop := allX a = true ∧ allX t = true ∧ cntE a ≤ 1000 ∧ cntE t ≤ 1000
noncomputable instance (a t : Ex) : Decidable (okIn5 a t) := Classical.propDecidable _
@[simp] noncomputable def gInto : List V → Option V := f3 kE (kI .i64) kE fun a x t => if okIn5 a t then some (wiV (psF (sgF x t) a) 1000) else none
theorem ok_rInto : PureOk Tryz.prog 104 gInto := by
  intro args r h
  obtain ⟨a, x, t, rfl, hr⟩ := f3_inv h; clear h
  split at hr
  · rename_i hm
    obtain ⟨h1, h2, h3, h4⟩ := hm
    cases hr
    have hE := ((EnvOk.nil (P := Tryz.prog) (eq := fun _ => false) (own := fun _ => false) (mem := fun _ => false) EqOk.none).addf ok_rWithin)
    refine ⟨⟨Tryz.f104, Tryz.func104, by decide, rfl⟩, pure_of_T Tryz.func104 rfl (by simp [Tryz.ntmps104]) fun q => ?_⟩
    have hok : okWi a t 1000 := ⟨h1, h2, h3, h4, by omega, by omega⟩
    by_cases c : (cntE (psF (sgF x t) a) : Int) ≤ 1000
    · have hw := wi_good c
      repeat' (first | (with_reducible refine T.sq fun K hK => ?_) | ((first | ((with_reducible refine T.reg hE ?hd ?_); (case hd => kernel_rfl)) | ((with_reducible refine T.any hE mixed ?hd ?hok ?_); (case hd => kernel_rfl); (case hok => kernel_rfl))); simp [*]; (repeat' (split; all_goals (rename_i hc; try simp [*])))) | ((with_reducible refine T.ret ?_); refine fin_pure ?_; simp [*]; try (change Hold _)) | (with_reducible refine T.block ?_) | ((with_reducible refine T.skip ?_); simp [*]) | ((with_reducible refine T.exit ?_); simp [*]) | ((with_reducible refine T.br fun K1 K2 hK1 hK2 => ?_); simp [*]; try ((refine Br.intro (fun hc => ?_) (fun hc => ?_)) <;> (try simp at hc))) | (with_reducible refine Cont.go (by assumption) _ ?_) | (with_reducible refine Cnt.go (by assumption) ?_))
      all_goals (unfold Hold; first | rfl | (simp [*]; done))
    · have hw := wi_bad c
      repeat' (first | (with_reducible refine T.sq fun K hK => ?_) | ((first | ((with_reducible refine T.reg hE ?hd ?_); (case hd => kernel_rfl)) | ((with_reducible refine T.any hE mixed ?hd ?hok ?_); (case hd => kernel_rfl); (case hok => kernel_rfl))); simp [*]; (repeat' (split; all_goals (rename_i hc; try simp [*])))) | ((with_reducible refine T.ret ?_); refine fin_pure ?_; simp [*]; try (change Hold _)) | (with_reducible refine T.block ?_) | ((with_reducible refine T.skip ?_); simp [*]) | ((with_reducible refine T.exit ?_); simp [*]) | ((with_reducible refine T.br fun K1 K2 hK1 hK2 => ?_); simp [*]; try ((refine Br.intro (fun hc => ?_) (fun hc => ?_)) <;> (try simp at hc))) | (with_reducible refine Cont.go (by assumption) _ ?_) | (with_reducible refine Cnt.go (by assumption) ?_))
      all_goals (unfold Hold; first | rfl | (simp [*]; done))
  · cases hr
def madeV (k : Int) (l : List Ex) (x : Int) : V := if k = 4 ∧ ¬ (cntE (psX l x) : Int) ≤ 1000 then .agg [.bool false, .int .i64 0, .int .i64 0, .sl [] .no, .int .i64 0] else .agg [.bool true, .int .i64 (instE k l x).k, .int .i64 (instE k l x).i, .sl (encL (instE k l x).kids) .no, .int .i64 0]
theorem mk_rights {k : Int} {l : List Ex} {x : Int} (h : okMk k l x) : ∀ e ∈ l, rightE e = 0 := (sortE_ok h.2.1).1

theorem ok_side1 {l : List Ex} {x : Int} (hok : okMk 1 l x) : Okat Tryz.prog 48 [.int .i64 1, .sl (encL l) .no, .int .i64 x] (.bool (sideB 1 l x)) := by
  have hall := mk_rights hok
  obtain ⟨hl, hs, hx0, hx1⟩ := hok
  obtain ⟨a, b, rfl⟩ := len_two hl
  have hv : Hold (sideB 1 [a, b] x = true) := rfl
  clear hall hs hl
  have hE := (EnvOk.nil (P := Tryz.prog) (eq := fun _ => false) (own := fun _ => false) (mem := fun _ => false) EqOk.none)
  refine ⟨⟨Tryz.f48, Tryz.func48, by decide, rfl⟩, pure_of_T Tryz.func48 rfl (by simp [Tryz.ntmps48]) fun q => ?_⟩
  repeat' (first | (with_reducible refine T.sq fun K hK => ?_) | ((first | ((with_reducible refine T.reg hE ?hd ?_); (case hd => kernel_rfl)) | ((with_reducible refine T.any hE mixed ?hd ?hok ?_); (case hd => kernel_rfl); (case hok => kernel_rfl))); simp [*]; (repeat' (split; all_goals (rename_i hc; try simp [*])))) | ((with_reducible refine T.ret ?_); refine fin_pure ?_; simp [*]; try (change Hold _)) | (with_reducible refine T.block ?_) | ((with_reducible refine T.skip ?_); simp [*]) | ((with_reducible refine T.exit ?_); simp [*]) | ((with_reducible refine T.br fun K1 K2 hK1 hK2 => ?_); simp [*]; try ((refine Br.intro (fun hc => ?_) (fun hc => ?_)) <;> (try simp at hc))) | (with_reducible refine Cont.go (by assumption) _ ?_) | (with_reducible refine Cnt.go (by assumption) ?_))
  all_goals (unfold Hold at *; rw [hv]; try simp)

set_option maxHeartbeats 1000000 in
theorem ok_made1 {l : List Ex} {x : Int} (hok : okMk 1 l x) : Okat Tryz.prog 49 [.int .i64 1, .sl (encL l) .no, .int .i64 x] (madeV 1 l x) := by
  have hall := mk_rights hok
  obtain ⟨hl, hs, hx0, hx1⟩ := hok
  obtain ⟨a, b, rfl⟩ := len_two hl
  have sa := small_all (right_zero (hall a (by simp))).2.2
  have sb := small_all (right_zero (hall b (by simp))).2.2
  have hv : Hold (madeV 1 [a, b] x = .agg [.bool true, .int .i64 (impX a (impX b a)).k, .int .i64 (impX a (impX b a)).i, .sl (encL (impX a (impX b a)).kids) .no, .int .i64 0]) := by
    unfold Hold madeV instE; simp
  have hsm : smE (impX a (impX b a)) = true := sm_imp sa (sm_imp sb sa)
  clear hall hs hl
  have hE := (((EnvOk.nil (P := Tryz.prog) (eq := fun _ => false) (own := fun _ => false) (mem := fun _ => false) EqOk.none).addf ok_Copy).addf ok_rImp)
  refine ⟨⟨Tryz.f49, Tryz.func49, by decide, rfl⟩, pure_of_T Tryz.func49 rfl (by simp [Tryz.ntmps49]) fun q => ?_⟩
  repeat' (first | (with_reducible refine T.sq fun K hK => ?_) | ((first | ((with_reducible refine T.reg hE ?hd ?_); (case hd => kernel_rfl)) | ((with_reducible refine T.any hE mixed ?hd ?hok ?_); (case hd => kernel_rfl); (case hok => kernel_rfl))); simp [*]; (repeat' (split; all_goals (rename_i hc; try simp [*])))) | ((with_reducible refine T.ret ?_); refine fin_pure ?_; simp [*]; try (change Hold _)) | (with_reducible refine T.block ?_) | ((with_reducible refine T.skip ?_); simp [*]) | ((with_reducible refine T.exit ?_); simp [*]) | ((with_reducible refine T.br fun K1 K2 hK1 hK2 => ?_); simp [*]; try ((refine Br.intro (fun hc => ?_) (fun hc => ?_)) <;> (try simp at hc))) | (with_reducible refine Cont.go (by assumption) _ ?_) | (with_reducible refine Cnt.go (by assumption) ?_))
  all_goals (unfold Hold at *; rw [hv])

theorem ok_side2 {l : List Ex} {x : Int} (hok : okMk 2 l x) : Okat Tryz.prog 48 [.int .i64 2, .sl (encL l) .no, .int .i64 x] (.bool (sideB 2 l x)) := by
  have hall := mk_rights hok
  obtain ⟨hl, hs, hx0, hx1⟩ := hok
  obtain ⟨a, b, c, rfl⟩ := len_three hl
  have hv : Hold (sideB 2 [a, b, c] x = true) := rfl
  clear hall hs hl
  have hE := (EnvOk.nil (P := Tryz.prog) (eq := fun _ => false) (own := fun _ => false) (mem := fun _ => false) EqOk.none)
  refine ⟨⟨Tryz.f48, Tryz.func48, by decide, rfl⟩, pure_of_T Tryz.func48 rfl (by simp [Tryz.ntmps48]) fun q => ?_⟩
  repeat' (first | (with_reducible refine T.sq fun K hK => ?_) | ((first | ((with_reducible refine T.reg hE ?hd ?_); (case hd => kernel_rfl)) | ((with_reducible refine T.any hE mixed ?hd ?hok ?_); (case hd => kernel_rfl); (case hok => kernel_rfl))); simp [*]; (repeat' (split; all_goals (rename_i hc; try simp [*])))) | ((with_reducible refine T.ret ?_); refine fin_pure ?_; simp [*]; try (change Hold _)) | (with_reducible refine T.block ?_) | ((with_reducible refine T.skip ?_); simp [*]) | ((with_reducible refine T.exit ?_); simp [*]) | ((with_reducible refine T.br fun K1 K2 hK1 hK2 => ?_); simp [*]; try ((refine Br.intro (fun hc => ?_) (fun hc => ?_)) <;> (try simp at hc))) | (with_reducible refine Cont.go (by assumption) _ ?_) | (with_reducible refine Cnt.go (by assumption) ?_))
  all_goals (unfold Hold at *; rw [hv]; try simp)

set_option maxHeartbeats 1000000 in
theorem ok_made2 {l : List Ex} {x : Int} (hok : okMk 2 l x) : Okat Tryz.prog 49 [.int .i64 2, .sl (encL l) .no, .int .i64 x] (madeV 2 l x) := by
  have hall := mk_rights hok
  obtain ⟨hl, hs, hx0, hx1⟩ := hok
  obtain ⟨a, b, c, rfl⟩ := len_three hl
  have sa := small_all (right_zero (hall a (by simp))).2.2
  have sb := small_all (right_zero (hall b (by simp))).2.2
  have sc := small_all (right_zero (hall c (by simp))).2.2
  have hv : Hold (madeV 2 [a, b, c] x = .agg [.bool true, .int .i64 (impX (impX a (impX b c)) (impX (impX a b) (impX a c))).k, .int .i64 (impX (impX a (impX b c)) (impX (impX a b) (impX a c))).i, .sl (encL (impX (impX a (impX b c)) (impX (impX a b) (impX a c))).kids) .no, .int .i64 0]) := by
    unfold Hold madeV instE; simp
  have hsm : smE (impX (impX a (impX b c)) (impX (impX a b) (impX a c))) = true := sm_imp (sm_imp sa (sm_imp sb sc)) (sm_imp (sm_imp sa sb) (sm_imp sa sc))
  clear hall hs hl
  have hE := (((EnvOk.nil (P := Tryz.prog) (eq := fun _ => false) (own := fun _ => false) (mem := fun _ => false) EqOk.none).addf ok_Copy).addf ok_rImp)
  refine ⟨⟨Tryz.f49, Tryz.func49, by decide, rfl⟩, pure_of_T Tryz.func49 rfl (by simp [Tryz.ntmps49]) fun q => ?_⟩
  repeat' (first | (with_reducible refine T.sq fun K hK => ?_) | ((first | ((with_reducible refine T.reg hE ?hd ?_); (case hd => kernel_rfl)) | ((with_reducible refine T.any hE mixed ?hd ?hok ?_); (case hd => kernel_rfl); (case hok => kernel_rfl))); simp [*]; (repeat' (split; all_goals (rename_i hc; try simp [*])))) | ((with_reducible refine T.ret ?_); refine fin_pure ?_; simp [*]; try (change Hold _)) | (with_reducible refine T.block ?_) | ((with_reducible refine T.skip ?_); simp [*]) | ((with_reducible refine T.exit ?_); simp [*]) | ((with_reducible refine T.br fun K1 K2 hK1 hK2 => ?_); simp [*]; try ((refine Br.intro (fun hc => ?_) (fun hc => ?_)) <;> (try simp at hc))) | (with_reducible refine Cont.go (by assumption) _ ?_) | (with_reducible refine Cnt.go (by assumption) ?_))
  all_goals (unfold Hold at *; rw [hv])

theorem ok_side3 {l : List Ex} {x : Int} (hok : okMk 3 l x) : Okat Tryz.prog 48 [.int .i64 3, .sl (encL l) .no, .int .i64 x] (.bool (sideB 3 l x)) := by
  have hall := mk_rights hok
  obtain ⟨hl, hs, hx0, hx1⟩ := hok
  obtain ⟨a, b, rfl⟩ := len_two hl
  have hv : Hold (sideB 3 [a, b] x = true) := rfl
  clear hall hs hl
  have hE := (EnvOk.nil (P := Tryz.prog) (eq := fun _ => false) (own := fun _ => false) (mem := fun _ => false) EqOk.none)
  refine ⟨⟨Tryz.f48, Tryz.func48, by decide, rfl⟩, pure_of_T Tryz.func48 rfl (by simp [Tryz.ntmps48]) fun q => ?_⟩
  repeat' (first | (with_reducible refine T.sq fun K hK => ?_) | ((first | ((with_reducible refine T.reg hE ?hd ?_); (case hd => kernel_rfl)) | ((with_reducible refine T.any hE mixed ?hd ?hok ?_); (case hd => kernel_rfl); (case hok => kernel_rfl))); simp [*]; (repeat' (split; all_goals (rename_i hc; try simp [*])))) | ((with_reducible refine T.ret ?_); refine fin_pure ?_; simp [*]; try (change Hold _)) | (with_reducible refine T.block ?_) | ((with_reducible refine T.skip ?_); simp [*]) | ((with_reducible refine T.exit ?_); simp [*]) | ((with_reducible refine T.br fun K1 K2 hK1 hK2 => ?_); simp [*]; try ((refine Br.intro (fun hc => ?_) (fun hc => ?_)) <;> (try simp at hc))) | (with_reducible refine Cont.go (by assumption) _ ?_) | (with_reducible refine Cnt.go (by assumption) ?_))
  all_goals (unfold Hold at *; rw [hv]; try simp)

set_option maxHeartbeats 1000000 in
theorem ok_made3 {l : List Ex} {x : Int} (hok : okMk 3 l x) : Okat Tryz.prog 49 [.int .i64 3, .sl (encL l) .no, .int .i64 x] (madeV 3 l x) := by
  have hall := mk_rights hok
  obtain ⟨hl, hs, hx0, hx1⟩ := hok
  obtain ⟨a, b, rfl⟩ := len_two hl
  have sa := small_all (right_zero (hall a (by simp))).2.2
  have sb := small_all (right_zero (hall b (by simp))).2.2
  have hv : Hold (madeV 3 [a, b] x = .agg [.bool true, .int .i64 (impX (impX (notX a) (notX b)) (impX b a)).k, .int .i64 (impX (impX (notX a) (notX b)) (impX b a)).i, .sl (encL (impX (impX (notX a) (notX b)) (impX b a)).kids) .no, .int .i64 0]) := by
    unfold Hold madeV instE; simp
  have hsm : smE (impX (impX (notX a) (notX b)) (impX b a)) = true := sm_imp (sm_imp (sm_not sa) (sm_not sb)) (sm_imp sb sa)
  clear hall hs hl
  have hE := ((((EnvOk.nil (P := Tryz.prog) (eq := fun _ => false) (own := fun _ => false) (mem := fun _ => false) EqOk.none).addf ok_Copy).addf ok_rImp).addf ok_rNot)
  refine ⟨⟨Tryz.f49, Tryz.func49, by decide, rfl⟩, pure_of_T Tryz.func49 rfl (by simp [Tryz.ntmps49]) fun q => ?_⟩
  repeat' (first | (with_reducible refine T.sq fun K hK => ?_) | ((first | ((with_reducible refine T.reg hE ?hd ?_); (case hd => kernel_rfl)) | ((with_reducible refine T.any hE mixed ?hd ?hok ?_); (case hd => kernel_rfl); (case hok => kernel_rfl))); simp [*]; (repeat' (split; all_goals (rename_i hc; try simp [*])))) | ((with_reducible refine T.ret ?_); refine fin_pure ?_; simp [*]; try (change Hold _)) | (with_reducible refine T.block ?_) | ((with_reducible refine T.skip ?_); simp [*]) | ((with_reducible refine T.exit ?_); simp [*]) | ((with_reducible refine T.br fun K1 K2 hK1 hK2 => ?_); simp [*]; try ((refine Br.intro (fun hc => ?_) (fun hc => ?_)) <;> (try simp at hc))) | (with_reducible refine Cont.go (by assumption) _ ?_) | (with_reducible refine Cnt.go (by assumption) ?_))
  all_goals (unfold Hold at *; rw [hv])

theorem ok_side4 {l : List Ex} {x : Int} (hok : okMk 4 l x) : Okat Tryz.prog 48 [.int .i64 4, .sl (encL l) .no, .int .i64 x] (.bool (sideB 4 l x)) := by
  have hall := mk_rights hok
  obtain ⟨hl, hs, hx0, hx1⟩ := hok
  obtain ⟨a, b, rfl⟩ := len_two hl
  have hv : Hold (sideB 4 [a, b] x = ffB b x a) := rfl
  clear hall hs hl
  have hE := ((EnvOk.nil (P := Tryz.prog) (eq := fun _ => false) (own := fun _ => false) (mem := fun _ => false) EqOk.none).addf ok_rFreeFor)
  refine ⟨⟨Tryz.f48, Tryz.func48, by decide, rfl⟩, pure_of_T Tryz.func48 rfl (by simp [Tryz.ntmps48]) fun q => ?_⟩
  repeat' (first | (with_reducible refine T.sq fun K hK => ?_) | ((first | ((with_reducible refine T.reg hE ?hd ?_); (case hd => kernel_rfl)) | ((with_reducible refine T.any hE mixed ?hd ?hok ?_); (case hd => kernel_rfl); (case hok => kernel_rfl))); simp [*]; (repeat' (split; all_goals (rename_i hc; try simp [*])))) | ((with_reducible refine T.ret ?_); refine fin_pure ?_; simp [*]; try (change Hold _)) | (with_reducible refine T.block ?_) | ((with_reducible refine T.skip ?_); simp [*]) | ((with_reducible refine T.exit ?_); simp [*]) | ((with_reducible refine T.br fun K1 K2 hK1 hK2 => ?_); simp [*]; try ((refine Br.intro (fun hc => ?_) (fun hc => ?_)) <;> (try simp at hc))) | (with_reducible refine Cont.go (by assumption) _ ?_) | (with_reducible refine Cnt.go (by assumption) ?_))
  all_goals (unfold Hold at *; rw [hv]; try simp)

set_option maxHeartbeats 1000000 in
theorem ok_made4 {l : List Ex} {x : Int} (hok : okMk 4 l x) : Okat Tryz.prog 49 [.int .i64 4, .sl (encL l) .no, .int .i64 x] (madeV 4 l x) := by
  have hall := mk_rights hok
  obtain ⟨hl, hs, hx0, hx1⟩ := hok
  obtain ⟨a, b, rfl⟩ := len_two hl
  have sa := small_all (right_zero (hall a (by simp))).2.2
  have sb := small_all (right_zero (hall b (by simp))).2.2
  obtain ⟨a1, a2, a3⟩ := right_zero (hall a (by simp))
  obtain ⟨b1, b2, b3⟩ := right_zero (hall b (by simp))
  rw [nodesN_eq] at a1 b1
  have hok : okIn5 a b := ⟨a3, b3, a1, b1⟩
  have hT : isT b = true := by
    have := (sortE_ok hs).2
    simp [srtS, sortsOk] at this
    exact this.2
  have hsp := (psF_shape (f := sgF x b) a a3 (termF_sg b3 hT)).1
  have hv0 : Hold (madeV 4 [a, b] x = if ¬ (cntE (psF (sgF x b) a) : Int) ≤ 1000 then .agg [.bool false, .int .i64 0, .int .i64 0, .sl [] .no, .int .i64 0] else .agg [.bool true, .int .i64 6, .int .i64 0, .sl (encL [allQ x a, psF (sgF x b) a]) .no, .int .i64 0]) := by
    unfold Hold madeV instE psX; simp [impX]
  clear hall hs hl
  generalize hP : psF (sgF x b) a = P at *
  have sp := small_all hsp
  have hsm : smE (impX (allQ x a) P) = true := sm_imp (sm_all x sa) sp
  have hE := (((((EnvOk.nil (P := Tryz.prog) (eq := fun _ => false) (own := fun _ => false) (mem := fun _ => false) EqOk.none).addf ok_Copy).addf ok_rImp).addf ok_rAll).addf ok_rInto)
  refine ⟨⟨Tryz.f49, Tryz.func49, by decide, rfl⟩, pure_of_T Tryz.func49 rfl (by simp [Tryz.ntmps49]) fun q => ?_⟩
  by_cases c : (cntE P : Int) ≤ 1000
  · have hw := wi_good c
    have hv : Hold (madeV 4 [a, b] x = .agg [.bool true, .int .i64 6, .int .i64 0, .sl (encL [allQ x a, P]) .no, .int .i64 0]) := by unfold Hold at *; rw [hv0, if_neg (by omega)]
    clear hv0
    repeat' (first | (with_reducible refine T.sq fun K hK => ?_) | ((first | ((with_reducible refine T.reg hE ?hd ?_); (case hd => kernel_rfl)) | ((with_reducible refine T.any hE mixed ?hd ?hok ?_); (case hd => kernel_rfl); (case hok => kernel_rfl))); simp [*]; (repeat' (split; all_goals (rename_i hc; try simp [*])))) | ((with_reducible refine T.ret ?_); refine fin_pure ?_; simp [*]; try (change Hold _)) | (with_reducible refine T.block ?_) | ((with_reducible refine T.skip ?_); simp [*]) | ((with_reducible refine T.exit ?_); simp [*]) | ((with_reducible refine T.br fun K1 K2 hK1 hK2 => ?_); simp [*]; try ((refine Br.intro (fun hc => ?_) (fun hc => ?_)) <;> (try simp at hc))) | (with_reducible refine Cont.go (by assumption) _ ?_) | (with_reducible refine Cnt.go (by assumption) ?_))
    all_goals (unfold Hold at *; rw [hv]; try simp [impX, allQ])
  · have hw := wi_bad c
    have hv : Hold (madeV 4 [a, b] x = .agg [.bool false, .int .i64 0, .int .i64 0, .sl [] .no, .int .i64 0]) := by unfold Hold at *; rw [hv0, if_pos c]
    clear hv0
    repeat' (first | (with_reducible refine T.sq fun K hK => ?_) | ((first | ((with_reducible refine T.reg hE ?hd ?_); (case hd => kernel_rfl)) | ((with_reducible refine T.any hE mixed ?hd ?hok ?_); (case hd => kernel_rfl); (case hok => kernel_rfl))); simp [*]; (repeat' (split; all_goals (rename_i hc; try simp [*])))) | ((with_reducible refine T.ret ?_); refine fin_pure ?_; simp [*]; try (change Hold _)) | (with_reducible refine T.block ?_) | ((with_reducible refine T.skip ?_); simp [*]) | ((with_reducible refine T.exit ?_); simp [*]) | ((with_reducible refine T.br fun K1 K2 hK1 hK2 => ?_); simp [*]; try ((refine Br.intro (fun hc => ?_) (fun hc => ?_)) <;> (try simp at hc))) | (with_reducible refine Cont.go (by assumption) _ ?_) | (with_reducible refine Cnt.go (by assumption) ?_))
    all_goals (unfold Hold at *; rw [hv]; try simp)

theorem ok_side5 {l : List Ex} {x : Int} (hok : okMk 5 l x) : Okat Tryz.prog 48 [.int .i64 5, .sl (encL l) .no, .int .i64 x] (.bool (sideB 5 l x)) := by
  have hall := mk_rights hok
  obtain ⟨hl, hs, hx0, hx1⟩ := hok
  obtain ⟨a, b, rfl⟩ := len_two hl
  have hv : Hold (sideB 5 [a, b] x = !hasB (frE a) x) := rfl
  have hox : okX a := (right_zero (hall a (by simp))).2.2
  clear hall hs hl
  have hE := ((EnvOk.nil (P := Tryz.prog) (eq := fun _ => false) (own := fun _ => false) (mem := fun _ => false) EqOk.none).addf ok_rIsFree)
  refine ⟨⟨Tryz.f48, Tryz.func48, by decide, rfl⟩, pure_of_T Tryz.func48 rfl (by simp [Tryz.ntmps48]) fun q => ?_⟩
  repeat' (first | (with_reducible refine T.sq fun K hK => ?_) | ((first | ((with_reducible refine T.reg hE ?hd ?_); (case hd => kernel_rfl)) | ((with_reducible refine T.any hE mixed ?hd ?hok ?_); (case hd => kernel_rfl); (case hok => kernel_rfl))); simp [*]; (repeat' (split; all_goals (rename_i hc; try simp [*])))) | ((with_reducible refine T.ret ?_); refine fin_pure ?_; simp [*]; try (change Hold _)) | (with_reducible refine T.block ?_) | ((with_reducible refine T.skip ?_); simp [*]) | ((with_reducible refine T.exit ?_); simp [*]) | ((with_reducible refine T.br fun K1 K2 hK1 hK2 => ?_); simp [*]; try ((refine Br.intro (fun hc => ?_) (fun hc => ?_)) <;> (try simp at hc))) | (with_reducible refine Cont.go (by assumption) _ ?_) | (with_reducible refine Cnt.go (by assumption) ?_))
  all_goals (unfold Hold at *; rw [hv]; try simp)

set_option maxHeartbeats 1000000 in
theorem ok_made5 {l : List Ex} {x : Int} (hok : okMk 5 l x) : Okat Tryz.prog 49 [.int .i64 5, .sl (encL l) .no, .int .i64 x] (madeV 5 l x) := by
  have hall := mk_rights hok
  obtain ⟨hl, hs, hx0, hx1⟩ := hok
  obtain ⟨a, b, rfl⟩ := len_two hl
  have sa := small_all (right_zero (hall a (by simp))).2.2
  have sb := small_all (right_zero (hall b (by simp))).2.2
  have hv : Hold (madeV 5 [a, b] x = .agg [.bool true, .int .i64 (impX (allQ x (impX a b)) (impX a (allQ x b))).k, .int .i64 (impX (allQ x (impX a b)) (impX a (allQ x b))).i, .sl (encL (impX (allQ x (impX a b)) (impX a (allQ x b))).kids) .no, .int .i64 0]) := by
    unfold Hold madeV instE; simp
  have hsm : smE (impX (allQ x (impX a b)) (impX a (allQ x b))) = true := sm_imp (sm_all x (sm_imp sa sb)) (sm_imp sa (sm_all x sb))
  clear hall hs hl
  have hE := ((((EnvOk.nil (P := Tryz.prog) (eq := fun _ => false) (own := fun _ => false) (mem := fun _ => false) EqOk.none).addf ok_Copy).addf ok_rImp).addf ok_rAll)
  refine ⟨⟨Tryz.f49, Tryz.func49, by decide, rfl⟩, pure_of_T Tryz.func49 rfl (by simp [Tryz.ntmps49]) fun q => ?_⟩
  repeat' (first | (with_reducible refine T.sq fun K hK => ?_) | ((first | ((with_reducible refine T.reg hE ?hd ?_); (case hd => kernel_rfl)) | ((with_reducible refine T.any hE mixed ?hd ?hok ?_); (case hd => kernel_rfl); (case hok => kernel_rfl))); simp [*]; (repeat' (split; all_goals (rename_i hc; try simp [*])))) | ((with_reducible refine T.ret ?_); refine fin_pure ?_; simp [*]; try (change Hold _)) | (with_reducible refine T.block ?_) | ((with_reducible refine T.skip ?_); simp [*]) | ((with_reducible refine T.exit ?_); simp [*]) | ((with_reducible refine T.br fun K1 K2 hK1 hK2 => ?_); simp [*]; try ((refine Br.intro (fun hc => ?_) (fun hc => ?_)) <;> (try simp at hc))) | (with_reducible refine Cont.go (by assumption) _ ?_) | (with_reducible refine Cnt.go (by assumption) ?_))
  all_goals (unfold Hold at *; rw [hv])

theorem ok_side6 {l : List Ex} {x : Int} (hok : okMk 6 l x) : Okat Tryz.prog 48 [.int .i64 6, .sl (encL l) .no, .int .i64 x] (.bool (sideB 6 l x)) := by
  have hall := mk_rights hok
  obtain ⟨hl, hs, hx0, hx1⟩ := hok
  obtain ⟨a, rfl⟩ := len_one hl
  have hv : Hold (sideB 6 [a] x = true) := rfl
  clear hall hs hl
  have hE := (EnvOk.nil (P := Tryz.prog) (eq := fun _ => false) (own := fun _ => false) (mem := fun _ => false) EqOk.none)
  refine ⟨⟨Tryz.f48, Tryz.func48, by decide, rfl⟩, pure_of_T Tryz.func48 rfl (by simp [Tryz.ntmps48]) fun q => ?_⟩
  repeat' (first | (with_reducible refine T.sq fun K hK => ?_) | ((first | ((with_reducible refine T.reg hE ?hd ?_); (case hd => kernel_rfl)) | ((with_reducible refine T.any hE mixed ?hd ?hok ?_); (case hd => kernel_rfl); (case hok => kernel_rfl))); simp [*]; (repeat' (split; all_goals (rename_i hc; try simp [*])))) | ((with_reducible refine T.ret ?_); refine fin_pure ?_; simp [*]; try (change Hold _)) | (with_reducible refine T.block ?_) | ((with_reducible refine T.skip ?_); simp [*]) | ((with_reducible refine T.exit ?_); simp [*]) | ((with_reducible refine T.br fun K1 K2 hK1 hK2 => ?_); simp [*]; try ((refine Br.intro (fun hc => ?_) (fun hc => ?_)) <;> (try simp at hc))) | (with_reducible refine Cont.go (by assumption) _ ?_) | (with_reducible refine Cnt.go (by assumption) ?_))
  all_goals (unfold Hold at *; rw [hv]; try simp)

set_option maxHeartbeats 1000000 in
theorem ok_made6 {l : List Ex} {x : Int} (hok : okMk 6 l x) : Okat Tryz.prog 49 [.int .i64 6, .sl (encL l) .no, .int .i64 x] (madeV 6 l x) := by
  have hall := mk_rights hok
  obtain ⟨hl, hs, hx0, hx1⟩ := hok
  obtain ⟨a, rfl⟩ := len_one hl
  have sa := small_all (right_zero (hall a (by simp))).2.2
  have hv : Hold (madeV 6 [a] x = .agg [.bool true, .int .i64 (eqX a a).k, .int .i64 (eqX a a).i, .sl (encL (eqX a a).kids) .no, .int .i64 0]) := by
    unfold Hold madeV instE; simp
  have hsm : smE (eqX a a) = true := sm_eq sa sa
  clear hall hs hl
  have hE := (((EnvOk.nil (P := Tryz.prog) (eq := fun _ => false) (own := fun _ => false) (mem := fun _ => false) EqOk.none).addf ok_Copy).addf ok_r7Eq)
  refine ⟨⟨Tryz.f49, Tryz.func49, by decide, rfl⟩, pure_of_T Tryz.func49 rfl (by simp [Tryz.ntmps49]) fun q => ?_⟩
  repeat' (first | (with_reducible refine T.sq fun K hK => ?_) | ((first | ((with_reducible refine T.reg hE ?hd ?_); (case hd => kernel_rfl)) | ((with_reducible refine T.any hE mixed ?hd ?hok ?_); (case hd => kernel_rfl); (case hok => kernel_rfl))); simp [*]; (repeat' (split; all_goals (rename_i hc; try simp [*])))) | ((with_reducible refine T.ret ?_); refine fin_pure ?_; simp [*]; try (change Hold _)) | (with_reducible refine T.block ?_) | ((with_reducible refine T.skip ?_); simp [*]) | ((with_reducible refine T.exit ?_); simp [*]) | ((with_reducible refine T.br fun K1 K2 hK1 hK2 => ?_); simp [*]; try ((refine Br.intro (fun hc => ?_) (fun hc => ?_)) <;> (try simp at hc))) | (with_reducible refine Cont.go (by assumption) _ ?_) | (with_reducible refine Cnt.go (by assumption) ?_))
  all_goals (unfold Hold at *; rw [hv])

theorem ok_side7 {l : List Ex} {x : Int} (hok : okMk 7 l x) : Okat Tryz.prog 48 [.int .i64 7, .sl (encL l) .no, .int .i64 x] (.bool (sideB 7 l x)) := by
  have hall := mk_rights hok
  obtain ⟨hl, hs, hx0, hx1⟩ := hok
  obtain ⟨a, b, c, d, rfl⟩ := len_four hl
  have hv : Hold (sideB 7 [a, b, c, d] x = swE a b (vaE a ||| vaE b) c d true) := rfl
  have k1 : okX a := (right_zero (hall a (by simp))).2.2
  have k2 : okX b := (right_zero (hall b (by simp))).2.2
  have k3 : allX c = true := (right_zero (hall c (by simp))).2.2
  have h1 := vaE_lt k1
  have h2 := vaE_lt k2
  have u1 := u64_nat h1
  have u2 := u64_nat h2
  have hok : okSw c ((vaE a ||| vaE b : Nat) : Int) := ⟨k3, u64_nat (or_lt h1 h2)⟩
  clear hall hs hl
  have hE := ((((EnvOk.nil (P := Tryz.prog) (eq := fun _ => false) (own := fun _ => false) (mem := fun _ => false) EqOk.none).addf ok_rVarsS).addf ok_rUnion).addf ok_rSwap)
  refine ⟨⟨Tryz.f48, Tryz.func48, by decide, rfl⟩, pure_of_T Tryz.func48 rfl (by simp [Tryz.ntmps48]) fun q => ?_⟩
  repeat' (first | (with_reducible refine T.sq fun K hK => ?_) | ((first | ((with_reducible refine T.reg hE ?hd ?_); (case hd => kernel_rfl)) | ((with_reducible refine T.any hE mixed ?hd ?hok ?_); (case hd => kernel_rfl); (case hok => kernel_rfl))); simp [*]; (repeat' (split; all_goals (rename_i hc; try simp [*])))) | ((with_reducible refine T.ret ?_); refine fin_pure ?_; simp [*]; try (change Hold _)) | (with_reducible refine T.block ?_) | ((with_reducible refine T.skip ?_); simp [*]) | ((with_reducible refine T.exit ?_); simp [*]) | ((with_reducible refine T.br fun K1 K2 hK1 hK2 => ?_); simp [*]; try ((refine Br.intro (fun hc => ?_) (fun hc => ?_)) <;> (try simp at hc))) | (with_reducible refine Cont.go (by assumption) _ ?_) | (with_reducible refine Cnt.go (by assumption) ?_))
  all_goals (unfold Hold at *; rw [hv]; try simp)

set_option maxHeartbeats 1000000 in
theorem ok_made7 {l : List Ex} {x : Int} (hok : okMk 7 l x) : Okat Tryz.prog 49 [.int .i64 7, .sl (encL l) .no, .int .i64 x] (madeV 7 l x) := by
  have hall := mk_rights hok
  obtain ⟨hl, hs, hx0, hx1⟩ := hok
  obtain ⟨a, b, c, d, rfl⟩ := len_four hl
  have sa := small_all (right_zero (hall a (by simp))).2.2
  have sb := small_all (right_zero (hall b (by simp))).2.2
  have sc := small_all (right_zero (hall c (by simp))).2.2
  have sd := small_all (right_zero (hall d (by simp))).2.2
  have hv : Hold (madeV 7 [a, b, c, d] x = .agg [.bool true, .int .i64 (impX (eqX a b) (impX c d)).k, .int .i64 (impX (eqX a b) (impX c d)).i, .sl (encL (impX (eqX a b) (impX c d)).kids) .no, .int .i64 0]) := by
    unfold Hold madeV instE; simp
  have hsm : smE (impX (eqX a b) (impX c d)) = true := sm_imp (sm_eq sa sb) (sm_imp sc sd)
  clear hall hs hl
  have hE := ((((EnvOk.nil (P := Tryz.prog) (eq := fun _ => false) (own := fun _ => false) (mem := fun _ => false) EqOk.none).addf ok_Copy).addf ok_rImp).addf ok_r7Eq)
  refine ⟨⟨Tryz.f49, Tryz.func49, by decide, rfl⟩, pure_of_T Tryz.func49 rfl (by simp [Tryz.ntmps49]) fun q => ?_⟩
  repeat' (first | (with_reducible refine T.sq fun K hK => ?_) | ((first | ((with_reducible refine T.reg hE ?hd ?_); (case hd => kernel_rfl)) | ((with_reducible refine T.any hE mixed ?hd ?hok ?_); (case hd => kernel_rfl); (case hok => kernel_rfl))); simp [*]; (repeat' (split; all_goals (rename_i hc; try simp [*])))) | ((with_reducible refine T.ret ?_); refine fin_pure ?_; simp [*]; try (change Hold _)) | (with_reducible refine T.block ?_) | ((with_reducible refine T.skip ?_); simp [*]) | ((with_reducible refine T.exit ?_); simp [*]) | ((with_reducible refine T.br fun K1 K2 hK1 hK2 => ?_); simp [*]; try ((refine Br.intro (fun hc => ?_) (fun hc => ?_)) <;> (try simp at hc))) | (with_reducible refine Cont.go (by assumption) _ ?_) | (with_reducible refine Cnt.go (by assumption) ?_))
  all_goals (unfold Hold at *; rw [hv])

def okSd (k : Int) (l : List Ex) (x : Int) : Prop := okK k ∧ okMk k l x
noncomputable instance (k : Int) (l : List Ex) (x : Int) : Decidable (okSd k l x) := Classical.propDecidable _
@[simp] noncomputable def gSide : List V → Option V := f3 (kI .i64) kL (kI .i64) fun k l x => if okSd k l x then some (.bool (sideB k l x)) else none
theorem ok_rSide : PureOk Tryz.prog 48 gSide := by
  intro args r h
  obtain ⟨k, l, x, rfl, hr⟩ := f3_inv h; clear h
  split at hr
  · rename_i hm
    obtain ⟨hk, hok⟩ := hm
    cases hr
    rcases seven hk with rfl | rfl | rfl | rfl | rfl | rfl | rfl
    · exact ok_side1 hok
    · exact ok_side2 hok
    · exact ok_side3 hok
    · exact ok_side4 hok
    · exact ok_side5 hok
    · exact ok_side6 hok
    · exact ok_side7 hok
  · cases hr
@[simp] noncomputable def gMade : List V → Option V := f3 (kI .i64) kL (kI .i64) fun k l x => if okSd k l x then some (madeV k l x) else none
theorem ok_rMade : PureOk Tryz.prog 49 gMade := by
  intro args r h
  obtain ⟨k, l, x, rfl, hr⟩ := f3_inv h; clear h
  split at hr
  · rename_i hm
    obtain ⟨hk, hok⟩ := hm
    cases hr
    rcases seven hk with rfl | rfl | rfl | rfl | rfl | rfl | rfl
    · exact ok_made1 hok
    · exact ok_made2 hok
    · exact ok_made3 hok
    · exact ok_made4 hok
    · exact ok_made5 hok
    · exact ok_made6 hok
    · exact ok_made7 hok
  · cases hr
/-- The error where there are too many nodes for sure. -/
theorem four_many {l : List Ex} {x : Int} (h : okMk 4 l x) (v : ¬ (cntE (psX l x) : Int) ≤ 1000) : rightE (instE 4 l x) = 20 := by
  have hall := mk_rights h
  obtain ⟨hl, hs, hx0, hx1⟩ := h
  obtain ⟨a, t, rfl⟩ := len_two hl
  have e : instE 4 [a, t] x = impX (allQ x a) (psX [a, t] x) := by unfold instE; simp
  rw [e, rightE_eq, nodesN_eq, cnt_imp, if_pos (by omega)]
set_option maxHeartbeats 4000000 in
theorem ok_rMake : PureOk Tryz.prog 17 gMakeR := by
  intro args r h
  obtain ⟨k, ⟨l, x⟩, rfl, ⟨⟩⟩ := f2_inv h
  clear h
  have hE := (((((((EnvOk.nil (P := Tryz.prog) (eq := fun _ => false) (own := fun _ => false) (mem := fun _ => false) EqOk.none).addf ok_rSorts).addf ok_rBnd).addf ok_rSorted).addf ok_rSide).addf ok_rMade).addf ok_rRight)
  refine ⟨⟨Tryz.f17, Tryz.func17, by decide, rfl⟩, pure_of_T Tryz.func17 rfl (by simp [Tryz.ntmps17]) fun q => ?_⟩
  by_cases k1 : k < 1
  · have hr : Hold (mkRes k l x = .tup [enc ex0, .int .i64 70]) := mkRes_bad (mk_none (by omega)) (by omega)
    repeat' (first | (with_reducible refine T.sq fun K hK => ?_) | ((first | ((with_reducible refine T.reg hE ?hd ?_); (case hd => kernel_rfl)) | ((with_reducible refine T.any hE mixed ?hd ?hok ?_); (case hd => kernel_rfl); (case hok => kernel_rfl))); simp [*]; (repeat' (split; all_goals (rename_i hc; try simp [*])))) | ((with_reducible refine T.ret ?_); refine fin_pure ?_; simp [*]; try (change Hold _)) | (with_reducible refine T.block ?_) | ((with_reducible refine T.skip ?_); simp [*]) | ((with_reducible refine T.exit ?_); simp [*]) | ((with_reducible refine T.br fun K1 K2 hK1 hK2 => ?_); simp [*]; try ((refine Br.intro (fun hc => ?_) (fun hc => ?_)) <;> (try simp at hc))) | (with_reducible refine Cont.go (by assumption) _ ?_) | (with_reducible refine Cnt.go (by assumption) ?_))
    all_goals (unfold Hold at *; rw [hr]; try simp [ex0])
  by_cases k2 : 7 < k
  · have hr : Hold (mkRes k l x = .tup [enc ex0, .int .i64 70]) := mkRes_bad (mk_none (by omega)) (by omega)
    repeat' (first | (with_reducible refine T.sq fun K hK => ?_) | ((first | ((with_reducible refine T.reg hE ?hd ?_); (case hd => kernel_rfl)) | ((with_reducible refine T.any hE mixed ?hd ?hok ?_); (case hd => kernel_rfl); (case hok => kernel_rfl))); simp [*]; (repeat' (split; all_goals (rename_i hc; try simp [*])))) | ((with_reducible refine T.ret ?_); refine fin_pure ?_; simp [*]; try (change Hold _)) | (with_reducible refine T.block ?_) | ((with_reducible refine T.skip ?_); simp [*]) | ((with_reducible refine T.exit ?_); simp [*]) | ((with_reducible refine T.br fun K1 K2 hK1 hK2 => ?_); simp [*]; try ((refine Br.intro (fun hc => ?_) (fun hc => ?_)) <;> (try simp at hc))) | (with_reducible refine Cont.go (by assumption) _ ?_) | (with_reducible refine Cnt.go (by assumption) ?_))
    all_goals (unfold Hold at *; rw [hr]; try simp [ex0])
  have hk : okK k := ⟨by omega, by omega⟩
  have hkk : 1 ≤ k ∧ k ≤ 7 := ⟨by omega, by omega⟩
  by_cases c1 : l.length = (srtS k).size
  rotate_left
  · have hr : Hold (mkRes k l x = .tup [enc ex0, .int .i64 71]) := mkRes_bad (mk_parts hkk fun h => c1 h.1) (by omega)
    have c1i : ¬ (l.length : Int) = ((srtS k).size : Int) := by omega
    clear hkk
    repeat' (first | (with_reducible refine T.sq fun K hK => ?_) | ((first | ((with_reducible refine T.reg hE ?hd ?_); (case hd => kernel_rfl)) | ((with_reducible refine T.any hE mixed ?hd ?hok ?_); (case hd => kernel_rfl); (case hok => kernel_rfl))); simp [*]; (repeat' (split; all_goals (rename_i hc; try simp [*])))) | ((with_reducible refine T.ret ?_); refine fin_pure ?_; simp [*]; try (change Hold _)) | (with_reducible refine T.block ?_) | ((with_reducible refine T.skip ?_); simp [*]) | ((with_reducible refine T.exit ?_); simp [*]) | ((with_reducible refine T.br fun K1 K2 hK1 hK2 => ?_); simp [*]; try ((refine Br.intro (fun hc => ?_) (fun hc => ?_)) <;> (try simp at hc))) | (with_reducible refine Cont.go (by assumption) _ ?_) | (with_reducible refine Cnt.go (by assumption) ?_))
    all_goals (unfold Hold at *; rw [hr]; try simp [ex0])
  have c1i : (srtS k).size = l.length := c1.symm
  by_cases c2 : x < 0
  · have hr : Hold (mkRes k l x = .tup [enc ex0, .int .i64 71]) := mkRes_bad (mk_parts hkk fun h => by have := h.2.1; omega) (by omega)
    clear hkk c1
    repeat' (first | (with_reducible refine T.sq fun K hK => ?_) | ((first | ((with_reducible refine T.reg hE ?hd ?_); (case hd => kernel_rfl)) | ((with_reducible refine T.any hE mixed ?hd ?hok ?_); (case hd => kernel_rfl); (case hok => kernel_rfl))); simp [*]; (repeat' (split; all_goals (rename_i hc; try simp [*])))) | ((with_reducible refine T.ret ?_); refine fin_pure ?_; simp [*]; try (change Hold _)) | (with_reducible refine T.block ?_) | ((with_reducible refine T.skip ?_); simp [*]) | ((with_reducible refine T.exit ?_); simp [*]) | ((with_reducible refine T.br fun K1 K2 hK1 hK2 => ?_); simp [*]; try ((refine Br.intro (fun hc => ?_) (fun hc => ?_)) <;> (try simp at hc))) | (with_reducible refine Cont.go (by assumption) _ ?_) | (with_reducible refine Cnt.go (by assumption) ?_))
    all_goals (unfold Hold at *; rw [hr]; try simp [ex0])
  by_cases c3 : 63 < x
  · have hr : Hold (mkRes k l x = .tup [enc ex0, .int .i64 71]) := mkRes_bad (mk_parts hkk fun h => by have := h.2.2.1; omega) (by omega)
    clear hkk c1
    repeat' (first | (with_reducible refine T.sq fun K hK => ?_) | ((first | ((with_reducible refine T.reg hE ?hd ?_); (case hd => kernel_rfl)) | ((with_reducible refine T.any hE mixed ?hd ?hok ?_); (case hd => kernel_rfl); (case hok => kernel_rfl))); simp [*]; (repeat' (split; all_goals (rename_i hc; try simp [*])))) | ((with_reducible refine T.ret ?_); refine fin_pure ?_; simp [*]; try (change Hold _)) | (with_reducible refine T.block ?_) | ((with_reducible refine T.skip ?_); simp [*]) | ((with_reducible refine T.exit ?_); simp [*]) | ((with_reducible refine T.br fun K1 K2 hK1 hK2 => ?_); simp [*]; try ((refine Br.intro (fun hc => ?_) (fun hc => ?_)) <;> (try simp at hc))) | (with_reducible refine Cont.go (by assumption) _ ?_) | (with_reducible refine Cnt.go (by assumption) ?_))
    all_goals (unfold Hold at *; rw [hr]; try simp [ex0])
  by_cases c4 : bndK k = true ∨ x = 0
  rotate_left
  · have hr : Hold (mkRes k l x = .tup [enc ex0, .int .i64 71]) := mkRes_bad (mk_parts hkk fun h => c4 h.2.2.2) (by omega)
    have c5 : bndK k = false := by rw [← Bool.not_eq_true]; exact fun h => c4 (.inl h)
    have c6 : ¬ x = 0 := fun h => c4 (.inr h)
    clear hkk c1 c4
    repeat' (first | (with_reducible refine T.sq fun K hK => ?_) | ((first | ((with_reducible refine T.reg hE ?hd ?_); (case hd => kernel_rfl)) | ((with_reducible refine T.any hE mixed ?hd ?hok ?_); (case hd => kernel_rfl); (case hok => kernel_rfl))); simp [*]; (repeat' (split; all_goals (rename_i hc; try simp [*])))) | ((with_reducible refine T.ret ?_); refine fin_pure ?_; simp [*]; try (change Hold _)) | (with_reducible refine T.block ?_) | ((with_reducible refine T.skip ?_); simp [*]) | ((with_reducible refine T.exit ?_); simp [*]) | ((with_reducible refine T.br fun K1 K2 hK1 hK2 => ?_); simp [*]; try ((refine Br.intro (fun hc => ?_) (fun hc => ?_)) <;> (try simp at hc))) | (with_reducible refine Cont.go (by assumption) _ ?_) | (with_reducible refine Cnt.go (by assumption) ?_))
    all_goals (unfold Hold at *; rw [hr]; try simp [ex0])
  have hp : Prt k l x := ⟨c1, by omega, by omega, c4⟩
  by_cases s : sortE l (srtS k) = 0
  rotate_left
  · have hr : Hold (mkRes k l x = .tup [enc ex0, .int .i64 (sortE l (srtS k))]) := mkRes_bad (mk_sort hkk hp s) s
    clear hkk hp c1
    cases hb : bndK k with
    | true =>
      clear c4
      repeat' (first | (with_reducible refine T.sq fun K hK => ?_) | ((first | ((with_reducible refine T.reg hE ?hd ?_); (case hd => kernel_rfl)) | ((with_reducible refine T.any hE mixed ?hd ?hok ?_); (case hd => kernel_rfl); (case hok => kernel_rfl))); simp [*]; (repeat' (split; all_goals (rename_i hc; try simp [*])))) | ((with_reducible refine T.ret ?_); refine fin_pure ?_; simp [*]; try (change Hold _)) | (with_reducible refine T.block ?_) | ((with_reducible refine T.skip ?_); simp [*]) | ((with_reducible refine T.exit ?_); simp [*]) | ((with_reducible refine T.br fun K1 K2 hK1 hK2 => ?_); simp [*]; try ((refine Br.intro (fun hc => ?_) (fun hc => ?_)) <;> (try simp at hc))) | (with_reducible refine Cont.go (by assumption) _ ?_) | (with_reducible refine Cnt.go (by assumption) ?_))
      all_goals (unfold Hold at *; rw [hr]; try simp [ex0])
    | false =>
      have c6 : x = 0 := by rcases c4 with h | h
                            · rw [hb] at h; cases h
                            · exact h
      clear c4
      subst c6
      repeat' (first | (with_reducible refine T.sq fun K hK => ?_) | ((first | ((with_reducible refine T.reg hE ?hd ?_); (case hd => kernel_rfl)) | ((with_reducible refine T.any hE mixed ?hd ?hok ?_); (case hd => kernel_rfl); (case hok => kernel_rfl))); simp [*]; (repeat' (split; all_goals (rename_i hc; try simp [*])))) | ((with_reducible refine T.ret ?_); refine fin_pure ?_; simp [*]; try (change Hold _)) | (with_reducible refine T.block ?_) | ((with_reducible refine T.skip ?_); simp [*]) | ((with_reducible refine T.exit ?_); simp [*]) | ((with_reducible refine T.br fun K1 K2 hK1 hK2 => ?_); simp [*]; try ((refine Br.intro (fun hc => ?_) (fun hc => ?_)) <;> (try simp at hc))) | (with_reducible refine Cont.go (by assumption) _ ?_) | (with_reducible refine Cnt.go (by assumption) ?_))
      all_goals (unfold Hold at *; rw [hr]; try simp [ex0])
  have hok : okMk k l x := ⟨c1, s, by omega, by omega⟩
  have hsd : okSd k l x := ⟨hk, hok⟩
  have hside := fun b => mk_side (x := x) hkk hp s b
  have hright := fun b => mk_right (x := x) hkk hp s b
  have hmany : k = 4 → ¬ (cntE (psX l x) : Int) ≤ 1000 → rightE (instE k l x) = 20 := fun e h => by subst e; exact four_many hok h
  obtain ⟨B, hB⟩ : ∃ B, bndK k = B := ⟨_, rfl⟩
  have c6 : B = true ∨ B = false ∧ x = 0 := by
    rw [hB] at c4
    cases B with
    | true => exact .inl rfl
    | false => exact .inr ⟨rfl, c4.resolve_left (by simp)⟩
  clear hkk hp c1 c4 hok
  cases b : sideB k l x with
  | false =>
    have hr : Hold (mkRes k l x = .tup [enc ex0, .int .i64 72]) := mkRes_bad (hside b) (by omega)
    clear hside hright hmany
    rcases c6 with rfl | ⟨rfl, rfl⟩
    all_goals (
      repeat' (first | (with_reducible refine T.sq fun K hK => ?_) | ((first | ((with_reducible refine T.reg hE ?hd ?_); (case hd => kernel_rfl)) | ((with_reducible refine T.any hE mixed ?hd ?hok ?_); (case hd => kernel_rfl); (case hok => kernel_rfl))); simp [*]; (repeat' (split; all_goals (rename_i hc; try simp [*])))) | ((with_reducible refine T.ret ?_); refine fin_pure ?_; simp [*]; try (change Hold _)) | (with_reducible refine T.block ?_) | ((with_reducible refine T.skip ?_); simp [*]) | ((with_reducible refine T.exit ?_); simp [*]) | ((with_reducible refine T.br fun K1 K2 hK1 hK2 => ?_); simp [*]; try ((refine Br.intro (fun hc => ?_) (fun hc => ?_)) <;> (try simp at hc))) | (with_reducible refine Cont.go (by assumption) _ ?_) | (with_reducible refine Cnt.go (by assumption) ?_))
      all_goals (unfold Hold at *; rw [hr]; try simp [ex0]))
  | true =>
    have hrt := hright b
    clear hside hright
    by_cases m : k = 4 ∧ ¬ (cntE (psX l x) : Int) ≤ 1000
    · have hr : Hold (mkRes k l x = .tup [enc ex0, .int .i64 20]) := mkRes_bad (hrt.trans (hmany m.1 m.2)) (by omega)
      have hmv : madeV k l x = .agg [.bool false, .int .i64 0, .int .i64 0, .sl [] .no, .int .i64 0] := by unfold madeV; rw [if_pos m]
      have hd0 : decL [] = some [] := decL_nil
      clear hrt hmany m
      rcases c6 with rfl | ⟨rfl, rfl⟩
      all_goals (
        repeat' (first | (with_reducible refine T.sq fun K hK => ?_) | ((first | ((with_reducible refine T.reg hE ?hd ?_); (case hd => kernel_rfl)) | ((with_reducible refine T.any hE mixed ?hd ?hok ?_); (case hd => kernel_rfl); (case hok => kernel_rfl))); simp [*]; (repeat' (split; all_goals (rename_i hc; try simp [*])))) | ((with_reducible refine T.ret ?_); refine fin_pure ?_; simp [*]; try (change Hold _)) | (with_reducible refine T.block ?_) | ((with_reducible refine T.skip ?_); simp [*]) | ((with_reducible refine T.exit ?_); simp [*]) | ((with_reducible refine T.br fun K1 K2 hK1 hK2 => ?_); simp [*]; try ((refine Br.intro (fun hc => ?_) (fun hc => ?_)) <;> (try simp at hc))) | (with_reducible refine Cont.go (by assumption) _ ?_) | (with_reducible refine Cnt.go (by assumption) ?_))
        all_goals (unfold Hold at *; rw [hr]; try simp [ex0]))
    · have hmv : madeV k l x = .agg [.bool true, .int .i64 (instE k l x).k, .int .i64 (instE k l x).i, .sl (encL (instE k l x).kids) .no, .int .i64 0] := by unfold madeV; rw [if_neg m]
      have hgood : mkErr k l x = 0 → mkRes k l x = .tup [enc (instE k l x), .int .i64 0] := mkRes_good
      have hbad : ∀ n, mkErr k l x = n → n ≠ 0 → mkRes k l x = .tup [enc ex0, .int .i64 n] := fun n h1 h2 => mkRes_bad h1 h2
      clear hmany m
      generalize instE k l x = I at *
      by_cases u : rightE I = 0
      · have hr : Hold _ := hgood (hrt.trans u)
        clear hgood hbad hrt
        rcases c6 with rfl | ⟨rfl, rfl⟩
        all_goals (
          repeat' (first | (with_reducible refine T.sq fun K hK => ?_) | ((first | ((with_reducible refine T.reg hE ?hd ?_); (case hd => kernel_rfl)) | ((with_reducible refine T.any hE mixed ?hd ?hok ?_); (case hd => kernel_rfl); (case hok => kernel_rfl))); simp [*]; (repeat' (split; all_goals (rename_i hc; try simp [*])))) | ((with_reducible refine T.ret ?_); refine fin_pure ?_; simp [*]; try (change Hold _)) | (with_reducible refine T.block ?_) | ((with_reducible refine T.skip ?_); simp [*]) | ((with_reducible refine T.exit ?_); simp [*]) | ((with_reducible refine T.br fun K1 K2 hK1 hK2 => ?_); simp [*]; try ((refine Br.intro (fun hc => ?_) (fun hc => ?_)) <;> (try simp at hc))) | (with_reducible refine Cont.go (by assumption) _ ?_) | (with_reducible refine Cnt.go (by assumption) ?_))
          all_goals (unfold Hold at *; rw [hr]; try simp))
      · have hr : Hold _ := hbad _ hrt u
        clear hgood hbad hrt
        rcases c6 with rfl | ⟨rfl, rfl⟩
        all_goals (
          repeat' (first | (with_reducible refine T.sq fun K hK => ?_) | ((first | ((with_reducible refine T.reg hE ?hd ?_); (case hd => kernel_rfl)) | ((with_reducible refine T.any hE mixed ?hd ?hok ?_); (case hd => kernel_rfl); (case hok => kernel_rfl))); simp [*]; (repeat' (split; all_goals (rename_i hc; try simp [*])))) | ((with_reducible refine T.ret ?_); refine fin_pure ?_; simp [*]; try (change Hold _)) | (with_reducible refine T.block ?_) | ((with_reducible refine T.skip ?_); simp [*]) | ((with_reducible refine T.exit ?_); simp [*]) | ((with_reducible refine T.br fun K1 K2 hK1 hK2 => ?_); simp [*]; try ((refine Br.intro (fun hc => ?_) (fun hc => ?_)) <;> (try simp at hc))) | (with_reducible refine Cont.go (by assumption) _ ?_) | (with_reducible refine Cnt.go (by assumption) ?_))
          all_goals (unfold Hold at *; rw [hr]; try simp [ex0]))
end Go.Proofs.YtibfdebhbibfpaaGreat.Ax
