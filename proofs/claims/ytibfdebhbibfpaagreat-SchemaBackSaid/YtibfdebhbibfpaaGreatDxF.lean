/- Contracts: Make, by the program. -/
import Derived.Test.YtibfdebhbibfpaaGreatDxE
set_option linter.unusedVariables false
set_option linter.unusedSimpArgs false
namespace Go.Proofs.YtibfdebhbibfpaaGreat.Ax
open Go Go.Proofs


/-! ### Make -/
def mkRes (k : Int) (l : List Ex) (x : Int) : V := .tup [enc (mkX k l x), .int .i64 (mkErr k l x)]
theorem mkRes_bad {k : Int} {l : List Ex} {x n : Int} (h : mkErr k l x = n) (hn : n ≠ 0) : mkRes k l x = .tup [enc ex0, .int .i64 n] := by unfold mkRes; rw [mkX_bad h hn, h]
theorem mkRes_good {k : Int} {l : List Ex} {x : Int} (h : mkErr k l x = 0) : mkRes k l x = .tup [enc (instE k l x), .int .i64 0] := by unfold mkRes; rw [mkX_good h, h]
def Prt (k : Int) (l : List Ex) (x : Int) : Prop := l.length = (srtS k).size ∧ 0 ≤ x ∧ x ≤ 63 ∧ (bndK k = true ∨ x = 0)
theorem prt_iff (k : Int) (l : List Ex) (x : Int) : prtB k l x = true ↔ Prt k l x := by
  unfold prtB Prt
  simp only [Bool.and_eq_true, decide_eq_true_eq, Bool.or_eq_true]
  constructor
  · rintro ⟨⟨⟨h1, h2⟩, h3⟩, h4⟩; exact ⟨h1, h2, h3, h4⟩
  · rintro ⟨h1, h2, h3, h4⟩; exact ⟨⟨⟨h1, h2⟩, h3⟩, h4⟩
theorem mk_none {k : Int} {l : List Ex} {x : Int} (hk : ¬ (1 ≤ k ∧ k ≤ 7)) : mkErr k l x = 70 := by unfold mkErr; rw [if_neg hk]
theorem mk_parts {k : Int} {l : List Ex} {x : Int} (hk : 1 ≤ k ∧ k ≤ 7) (h : ¬ Prt k l x) : mkErr k l x = 71 := by
  unfold mkErr; rw [if_pos hk, if_neg (fun h2 => h ((prt_iff k l x).1 h2))]
theorem mk_sort {k : Int} {l : List Ex} {x : Int} (hk : 1 ≤ k ∧ k ≤ 7) (hp : Prt k l x) (hs : sortE l (srtS k) ≠ 0) : mkErr k l x = sortE l (srtS k) := by
  unfold mkErr; rw [if_pos hk, if_pos ((prt_iff k l x).2 hp), if_pos hs]
theorem mk_side {k : Int} {l : List Ex} {x : Int} (hk : 1 ≤ k ∧ k ≤ 7) (hp : Prt k l x) (hs : sortE l (srtS k) = 0) (hb : sideB k l x = false) : mkErr k l x = 72 := by
  unfold mkErr; rw [if_pos hk, if_pos ((prt_iff k l x).2 hp), if_neg (by simpa using hs), if_neg (by simp [hb])]
theorem mk_right {k : Int} {l : List Ex} {x : Int} (hk : 1 ≤ k ∧ k ≤ 7) (hp : Prt k l x) (hs : sortE l (srtS k) = 0) (hb : sideB k l x = true) : mkErr k l x = rightE (instE k l x) := by
  unfold mkErr; rw [if_pos hk, if_pos ((prt_iff k l x).2 hp), if_neg (by simpa using hs), if_pos hb]
theorem mk_kind {k : Int} {l : List Ex} {x : Int} : ¬ (instE k l x).k < 0 := by
  unfold instE
  repeat' split
  all_goals (simp [impX, eqX])
@[simp] def gMakeR : List V → Option V := f2 (kI .i64) kPa fun k p => some (mkRes k p.1 p.2)
set_option maxHeartbeats 4000000 in
theorem ok_make1 (l : List Ex) (x : Int) : Okat Tryz.prog 16 [.int .i64 1, .agg [.sl (encL l) .no, .int .i64 x]] (mkRes 1 l x) := by
  have hkk : (1 : Int) ≤ 1 ∧ (1 : Int) ≤ 7 := ⟨by omega, by omega⟩
  have hE := (((((EnvOk.nil (P := Tryz.prog) (eq := fun _ => false) (own := fun _ => false) (mem := fun _ => false) EqOk.none).addf ok_schema).addf ok_sSorted).addf ok_At).addf ok_mk1)
  refine ⟨⟨Tryz.f16, Tryz.func16, by decide, rfl⟩, pure_of_T Tryz.func16 rfl (by simp [Tryz.ntmps16]) fun q => ?_⟩
  have hpk : pickR 1 = .tup [.agg (rowC 1 ⟨#[102, 102]⟩ false 112 114), .bool true] := rfl
  have hz : ByteArray.size ⟨#[102, 102]⟩ = 2 := rfl
  have hd0 : decI .i64 [] = some [] := rfl
  by_cases c1 : l.length = 2
  rotate_left
  · have hr : Hold (mkRes 1 l x = .tup [enc ex0, .int .i64 71]) := mkRes_bad (mk_parts hkk fun h => c1 (h.1.trans hz)) (by omega)
    have c1i : ¬ (l.length : Int) = 2 := by omega
    clear hkk
    repeat' (first | (with_reducible refine T.sq fun K hK => ?_) | ((first | ((with_reducible refine T.reg hE ?hd ?_); (case hd => kernel_rfl)) | ((with_reducible refine T.any hE mixed ?hd ?hok ?_); (case hd => kernel_rfl); (case hok => kernel_rfl))); simp [*]; (repeat' (split; all_goals (rename_i hc; try simp [*])))) | ((with_reducible refine T.ret ?_); refine fin_pure ?_; simp [*]; try (change Hold _)) | (with_reducible refine T.block ?_) | ((with_reducible refine T.skip ?_); simp [*]) | ((with_reducible refine T.exit ?_); simp [*]) | ((with_reducible refine T.br fun K1 K2 hK1 hK2 => ?_); simp [*]; try ((refine Br.intro (fun hc => ?_) (fun hc => ?_)) <;> (try simp at hc))) | (with_reducible refine Cont.go (by assumption) _ ?_) | (with_reducible refine Cnt.go (by assumption) ?_))
    all_goals (unfold Hold at *; rw [hr]; try simp [ex0])
  have c1i : (l.length : Int) = 2 := by omega
  by_cases c2 : x < 0
  · have hr : Hold (mkRes 1 l x = .tup [enc ex0, .int .i64 71]) := mkRes_bad (mk_parts hkk fun h => by have := h.2.1; omega) (by omega)
    clear hkk
    repeat' (first | (with_reducible refine T.sq fun K hK => ?_) | ((first | ((with_reducible refine T.reg hE ?hd ?_); (case hd => kernel_rfl)) | ((with_reducible refine T.any hE mixed ?hd ?hok ?_); (case hd => kernel_rfl); (case hok => kernel_rfl))); simp [*]; (repeat' (split; all_goals (rename_i hc; try simp [*])))) | ((with_reducible refine T.ret ?_); refine fin_pure ?_; simp [*]; try (change Hold _)) | (with_reducible refine T.block ?_) | ((with_reducible refine T.skip ?_); simp [*]) | ((with_reducible refine T.exit ?_); simp [*]) | ((with_reducible refine T.br fun K1 K2 hK1 hK2 => ?_); simp [*]; try ((refine Br.intro (fun hc => ?_) (fun hc => ?_)) <;> (try simp at hc))) | (with_reducible refine Cont.go (by assumption) _ ?_) | (with_reducible refine Cnt.go (by assumption) ?_))
    all_goals (unfold Hold at *; rw [hr]; try simp [ex0])
  by_cases c3 : 63 < x
  · have hr : Hold (mkRes 1 l x = .tup [enc ex0, .int .i64 71]) := mkRes_bad (mk_parts hkk fun h => by have := h.2.2.1; omega) (by omega)
    clear hkk
    repeat' (first | (with_reducible refine T.sq fun K hK => ?_) | ((first | ((with_reducible refine T.reg hE ?hd ?_); (case hd => kernel_rfl)) | ((with_reducible refine T.any hE mixed ?hd ?hok ?_); (case hd => kernel_rfl); (case hok => kernel_rfl))); simp [*]; (repeat' (split; all_goals (rename_i hc; try simp [*])))) | ((with_reducible refine T.ret ?_); refine fin_pure ?_; simp [*]; try (change Hold _)) | (with_reducible refine T.block ?_) | ((with_reducible refine T.skip ?_); simp [*]) | ((with_reducible refine T.exit ?_); simp [*]) | ((with_reducible refine T.br fun K1 K2 hK1 hK2 => ?_); simp [*]; try ((refine Br.intro (fun hc => ?_) (fun hc => ?_)) <;> (try simp at hc))) | (with_reducible refine Cont.go (by assumption) _ ?_) | (with_reducible refine Cnt.go (by assumption) ?_))
    all_goals (unfold Hold at *; rw [hr]; try simp [ex0])
  by_cases c4 : x = 0
  rotate_left
  · have hr : Hold (mkRes 1 l x = .tup [enc ex0, .int .i64 71]) := mkRes_bad (mk_parts hkk fun h => h.2.2.2.elim (fun h => by cases h) c4) (by omega)
    clear hkk
    repeat' (first | (with_reducible refine T.sq fun K hK => ?_) | ((first | ((with_reducible refine T.reg hE ?hd ?_); (case hd => kernel_rfl)) | ((with_reducible refine T.any hE mixed ?hd ?hok ?_); (case hd => kernel_rfl); (case hok => kernel_rfl))); simp [*]; (repeat' (split; all_goals (rename_i hc; try simp [*])))) | ((with_reducible refine T.ret ?_); refine fin_pure ?_; simp [*]; try (change Hold _)) | (with_reducible refine T.block ?_) | ((with_reducible refine T.skip ?_); simp [*]) | ((with_reducible refine T.exit ?_); simp [*]) | ((with_reducible refine T.br fun K1 K2 hK1 hK2 => ?_); simp [*]; try ((refine Br.intro (fun hc => ?_) (fun hc => ?_)) <;> (try simp at hc))) | (with_reducible refine Cont.go (by assumption) _ ?_) | (with_reducible refine Cnt.go (by assumption) ?_))
    all_goals (unfold Hold at *; rw [hr]; try simp [ex0])
  have hp : Prt 1 l x := ⟨c1.trans hz.symm, by omega, by omega, .inr c4⟩
  subst c4
  by_cases s : sortE l ⟨#[102, 102]⟩ = 0
  rotate_left
  · have hr : Hold (mkRes 1 l 0 = .tup [enc ex0, .int .i64 (sortE l ⟨#[102, 102]⟩)]) := mkRes_bad (mk_sort hkk hp s) s
    clear hp
    clear hkk
    repeat' (first | (with_reducible refine T.sq fun K hK => ?_) | ((first | ((with_reducible refine T.reg hE ?hd ?_); (case hd => kernel_rfl)) | ((with_reducible refine T.any hE mixed ?hd ?hok ?_); (case hd => kernel_rfl); (case hok => kernel_rfl))); simp [*]; (repeat' (split; all_goals (rename_i hc; try simp [*])))) | ((with_reducible refine T.ret ?_); refine fin_pure ?_; simp [*]; try (change Hold _)) | (with_reducible refine T.block ?_) | ((with_reducible refine T.skip ?_); simp [*]) | ((with_reducible refine T.exit ?_); simp [*]) | ((with_reducible refine T.br fun K1 K2 hK1 hK2 => ?_); simp [*]; try ((refine Br.intro (fun hc => ?_) (fun hc => ?_)) <;> (try simp at hc))) | (with_reducible refine Cont.go (by assumption) _ ?_) | (with_reducible refine Cnt.go (by assumption) ?_))
    all_goals (unfold Hold at *; rw [hr]; try simp [ex0])
  have hok : okMk 1 l 0 := ⟨c1.trans hz.symm, s, by omega, by omega⟩
  have hmv : mkV 1 l 0 = .tup [enc (instE 1 l 0), .bool (sideB 1 l 0)] := rfl
  have b : sideB 1 l 0 = true := rfl
  have hrt := mk_right hkk hp s b
  have hkd := mk_kind (k := 1) (l := l) (x := 0)
  rw [b] at hmv
  have hgood : mkErr 1 l 0 = 0 → mkRes 1 l 0 = .tup [enc (instE 1 l 0), .int .i64 0] := mkRes_good
  have hbad : ∀ n, mkErr 1 l 0 = n → n ≠ 0 → mkRes 1 l 0 = .tup [enc ex0, .int .i64 n] := fun n h1 h2 => mkRes_bad h1 h2
  clear hkk hp b
  generalize instE 1 l 0 = I at *
  have hpv := partV_nil0 I
  by_cases u : rightE I = 0
  · have hr : Hold _ := hgood (hrt.trans u)
    rw [frV_good u] at hpv
    clear hgood hbad hrt
    repeat' (first | (with_reducible refine T.sq fun K hK => ?_) | ((first | ((with_reducible refine T.reg hE ?hd ?_); (case hd => kernel_rfl)) | ((with_reducible refine T.any hE mixed ?hd ?hok ?_); (case hd => kernel_rfl); (case hok => kernel_rfl))); simp [*]; (repeat' (split; all_goals (rename_i hc; try simp [*])))) | ((with_reducible refine T.ret ?_); refine fin_pure ?_; simp [*]; try (change Hold _)) | (with_reducible refine T.block ?_) | ((with_reducible refine T.skip ?_); simp [*]) | ((with_reducible refine T.exit ?_); simp [*]) | ((with_reducible refine T.br fun K1 K2 hK1 hK2 => ?_); simp [*]; try ((refine Br.intro (fun hc => ?_) (fun hc => ?_)) <;> (try simp at hc))) | (with_reducible refine Cont.go (by assumption) _ ?_) | (with_reducible refine Cnt.go (by assumption) ?_))
    all_goals (unfold Hold at *; rw [hr]; try simp)
  · have hr : Hold _ := hbad _ hrt u
    rw [frV_bad rfl u] at hpv
    clear hgood hbad hrt
    repeat' (first | (with_reducible refine T.sq fun K hK => ?_) | ((first | ((with_reducible refine T.reg hE ?hd ?_); (case hd => kernel_rfl)) | ((with_reducible refine T.any hE mixed ?hd ?hok ?_); (case hd => kernel_rfl); (case hok => kernel_rfl))); simp [*]; (repeat' (split; all_goals (rename_i hc; try simp [*])))) | ((with_reducible refine T.ret ?_); refine fin_pure ?_; simp [*]; try (change Hold _)) | (with_reducible refine T.block ?_) | ((with_reducible refine T.skip ?_); simp [*]) | ((with_reducible refine T.exit ?_); simp [*]) | ((with_reducible refine T.br fun K1 K2 hK1 hK2 => ?_); simp [*]; try ((refine Br.intro (fun hc => ?_) (fun hc => ?_)) <;> (try simp at hc))) | (with_reducible refine Cont.go (by assumption) _ ?_) | (with_reducible refine Cnt.go (by assumption) ?_))
    all_goals (unfold Hold at *; rw [hr]; try simp [ex0])
set_option maxHeartbeats 4000000 in
theorem ok_make2 (l : List Ex) (x : Int) : Okat Tryz.prog 16 [.int .i64 2, .agg [.sl (encL l) .no, .int .i64 x]] (mkRes 2 l x) := by
  have hkk : (1 : Int) ≤ 2 ∧ (2 : Int) ≤ 7 := ⟨by omega, by omega⟩
  have hE := (((((EnvOk.nil (P := Tryz.prog) (eq := fun _ => false) (own := fun _ => false) (mem := fun _ => false) EqOk.none).addf ok_schema).addf ok_sSorted).addf ok_At).addf ok_mk2)
  refine ⟨⟨Tryz.f16, Tryz.func16, by decide, rfl⟩, pure_of_T Tryz.func16 rfl (by simp [Tryz.ntmps16]) fun q => ?_⟩
  have hpk : pickR 2 = .tup [.agg (rowC 2 ⟨#[102, 102, 102]⟩ false 116 117), .bool true] := rfl
  have hz : ByteArray.size ⟨#[102, 102, 102]⟩ = 3 := rfl
  have hd0 : decI .i64 [] = some [] := rfl
  by_cases c1 : l.length = 3
  rotate_left
  · have hr : Hold (mkRes 2 l x = .tup [enc ex0, .int .i64 71]) := mkRes_bad (mk_parts hkk fun h => c1 (h.1.trans hz)) (by omega)
    have c1i : ¬ (l.length : Int) = 3 := by omega
    clear hkk
    repeat' (first | (with_reducible refine T.sq fun K hK => ?_) | ((first | ((with_reducible refine T.reg hE ?hd ?_); (case hd => kernel_rfl)) | ((with_reducible refine T.any hE mixed ?hd ?hok ?_); (case hd => kernel_rfl); (case hok => kernel_rfl))); simp [*]; (repeat' (split; all_goals (rename_i hc; try simp [*])))) | ((with_reducible refine T.ret ?_); refine fin_pure ?_; simp [*]; try (change Hold _)) | (with_reducible refine T.block ?_) | ((with_reducible refine T.skip ?_); simp [*]) | ((with_reducible refine T.exit ?_); simp [*]) | ((with_reducible refine T.br fun K1 K2 hK1 hK2 => ?_); simp [*]; try ((refine Br.intro (fun hc => ?_) (fun hc => ?_)) <;> (try simp at hc))) | (with_reducible refine Cont.go (by assumption) _ ?_) | (with_reducible refine Cnt.go (by assumption) ?_))
    all_goals (unfold Hold at *; rw [hr]; try simp [ex0])
  have c1i : (l.length : Int) = 3 := by omega
  by_cases c2 : x < 0
  · have hr : Hold (mkRes 2 l x = .tup [enc ex0, .int .i64 71]) := mkRes_bad (mk_parts hkk fun h => by have := h.2.1; omega) (by omega)
    clear hkk
    repeat' (first | (with_reducible refine T.sq fun K hK => ?_) | ((first | ((with_reducible refine T.reg hE ?hd ?_); (case hd => kernel_rfl)) | ((with_reducible refine T.any hE mixed ?hd ?hok ?_); (case hd => kernel_rfl); (case hok => kernel_rfl))); simp [*]; (repeat' (split; all_goals (rename_i hc; try simp [*])))) | ((with_reducible refine T.ret ?_); refine fin_pure ?_; simp [*]; try (change Hold _)) | (with_reducible refine T.block ?_) | ((with_reducible refine T.skip ?_); simp [*]) | ((with_reducible refine T.exit ?_); simp [*]) | ((with_reducible refine T.br fun K1 K2 hK1 hK2 => ?_); simp [*]; try ((refine Br.intro (fun hc => ?_) (fun hc => ?_)) <;> (try simp at hc))) | (with_reducible refine Cont.go (by assumption) _ ?_) | (with_reducible refine Cnt.go (by assumption) ?_))
    all_goals (unfold Hold at *; rw [hr]; try simp [ex0])
  by_cases c3 : 63 < x
  · have hr : Hold (mkRes 2 l x = .tup [enc ex0, .int .i64 71]) := mkRes_bad (mk_parts hkk fun h => by have := h.2.2.1; omega) (by omega)
    clear hkk
    repeat' (first | (with_reducible refine T.sq fun K hK => ?_) | ((first | ((with_reducible refine T.reg hE ?hd ?_); (case hd => kernel_rfl)) | ((with_reducible refine T.any hE mixed ?hd ?hok ?_); (case hd => kernel_rfl); (case hok => kernel_rfl))); simp [*]; (repeat' (split; all_goals (rename_i hc; try simp [*])))) | ((with_reducible refine T.ret ?_); refine fin_pure ?_; simp [*]; try (change Hold _)) | (with_reducible refine T.block ?_) | ((with_reducible refine T.skip ?_); simp [*]) | ((with_reducible refine T.exit ?_); simp [*]) | ((with_reducible refine T.br fun K1 K2 hK1 hK2 => ?_); simp [*]; try ((refine Br.intro (fun hc => ?_) (fun hc => ?_)) <;> (try simp at hc))) | (with_reducible refine Cont.go (by assumption) _ ?_) | (with_reducible refine Cnt.go (by assumption) ?_))
    all_goals (unfold Hold at *; rw [hr]; try simp [ex0])
  by_cases c4 : x = 0
  rotate_left
  · have hr : Hold (mkRes 2 l x = .tup [enc ex0, .int .i64 71]) := mkRes_bad (mk_parts hkk fun h => h.2.2.2.elim (fun h => by cases h) c4) (by omega)
    clear hkk
    repeat' (first | (with_reducible refine T.sq fun K hK => ?_) | ((first | ((with_reducible refine T.reg hE ?hd ?_); (case hd => kernel_rfl)) | ((with_reducible refine T.any hE mixed ?hd ?hok ?_); (case hd => kernel_rfl); (case hok => kernel_rfl))); simp [*]; (repeat' (split; all_goals (rename_i hc; try simp [*])))) | ((with_reducible refine T.ret ?_); refine fin_pure ?_; simp [*]; try (change Hold _)) | (with_reducible refine T.block ?_) | ((with_reducible refine T.skip ?_); simp [*]) | ((with_reducible refine T.exit ?_); simp [*]) | ((with_reducible refine T.br fun K1 K2 hK1 hK2 => ?_); simp [*]; try ((refine Br.intro (fun hc => ?_) (fun hc => ?_)) <;> (try simp at hc))) | (with_reducible refine Cont.go (by assumption) _ ?_) | (with_reducible refine Cnt.go (by assumption) ?_))
    all_goals (unfold Hold at *; rw [hr]; try simp [ex0])
  have hp : Prt 2 l x := ⟨c1.trans hz.symm, by omega, by omega, .inr c4⟩
  subst c4
  by_cases s : sortE l ⟨#[102, 102, 102]⟩ = 0
  rotate_left
  · have hr : Hold (mkRes 2 l 0 = .tup [enc ex0, .int .i64 (sortE l ⟨#[102, 102, 102]⟩)]) := mkRes_bad (mk_sort hkk hp s) s
    clear hp
    clear hkk
    repeat' (first | (with_reducible refine T.sq fun K hK => ?_) | ((first | ((with_reducible refine T.reg hE ?hd ?_); (case hd => kernel_rfl)) | ((with_reducible refine T.any hE mixed ?hd ?hok ?_); (case hd => kernel_rfl); (case hok => kernel_rfl))); simp [*]; (repeat' (split; all_goals (rename_i hc; try simp [*])))) | ((with_reducible refine T.ret ?_); refine fin_pure ?_; simp [*]; try (change Hold _)) | (with_reducible refine T.block ?_) | ((with_reducible refine T.skip ?_); simp [*]) | ((with_reducible refine T.exit ?_); simp [*]) | ((with_reducible refine T.br fun K1 K2 hK1 hK2 => ?_); simp [*]; try ((refine Br.intro (fun hc => ?_) (fun hc => ?_)) <;> (try simp at hc))) | (with_reducible refine Cont.go (by assumption) _ ?_) | (with_reducible refine Cnt.go (by assumption) ?_))
    all_goals (unfold Hold at *; rw [hr]; try simp [ex0])
  have hok : okMk 2 l 0 := ⟨c1.trans hz.symm, s, by omega, by omega⟩
  have hmv : mkV 2 l 0 = .tup [enc (instE 2 l 0), .bool (sideB 2 l 0)] := rfl
  have b : sideB 2 l 0 = true := rfl
  have hrt := mk_right hkk hp s b
  have hkd := mk_kind (k := 2) (l := l) (x := 0)
  rw [b] at hmv
  have hgood : mkErr 2 l 0 = 0 → mkRes 2 l 0 = .tup [enc (instE 2 l 0), .int .i64 0] := mkRes_good
  have hbad : ∀ n, mkErr 2 l 0 = n → n ≠ 0 → mkRes 2 l 0 = .tup [enc ex0, .int .i64 n] := fun n h1 h2 => mkRes_bad h1 h2
  clear hkk hp b
  generalize instE 2 l 0 = I at *
  have hpv := partV_nil0 I
  by_cases u : rightE I = 0
  · have hr : Hold _ := hgood (hrt.trans u)
    rw [frV_good u] at hpv
    clear hgood hbad hrt
    repeat' (first | (with_reducible refine T.sq fun K hK => ?_) | ((first | ((with_reducible refine T.reg hE ?hd ?_); (case hd => kernel_rfl)) | ((with_reducible refine T.any hE mixed ?hd ?hok ?_); (case hd => kernel_rfl); (case hok => kernel_rfl))); simp [*]; (repeat' (split; all_goals (rename_i hc; try simp [*])))) | ((with_reducible refine T.ret ?_); refine fin_pure ?_; simp [*]; try (change Hold _)) | (with_reducible refine T.block ?_) | ((with_reducible refine T.skip ?_); simp [*]) | ((with_reducible refine T.exit ?_); simp [*]) | ((with_reducible refine T.br fun K1 K2 hK1 hK2 => ?_); simp [*]; try ((refine Br.intro (fun hc => ?_) (fun hc => ?_)) <;> (try simp at hc))) | (with_reducible refine Cont.go (by assumption) _ ?_) | (with_reducible refine Cnt.go (by assumption) ?_))
    all_goals (unfold Hold at *; rw [hr]; try simp)
  · have hr : Hold _ := hbad _ hrt u
    rw [frV_bad rfl u] at hpv
    clear hgood hbad hrt
    repeat' (first | (with_reducible refine T.sq fun K hK => ?_) | ((first | ((with_reducible refine T.reg hE ?hd ?_); (case hd => kernel_rfl)) | ((with_reducible refine T.any hE mixed ?hd ?hok ?_); (case hd => kernel_rfl); (case hok => kernel_rfl))); simp [*]; (repeat' (split; all_goals (rename_i hc; try simp [*])))) | ((with_reducible refine T.ret ?_); refine fin_pure ?_; simp [*]; try (change Hold _)) | (with_reducible refine T.block ?_) | ((with_reducible refine T.skip ?_); simp [*]) | ((with_reducible refine T.exit ?_); simp [*]) | ((with_reducible refine T.br fun K1 K2 hK1 hK2 => ?_); simp [*]; try ((refine Br.intro (fun hc => ?_) (fun hc => ?_)) <;> (try simp at hc))) | (with_reducible refine Cont.go (by assumption) _ ?_) | (with_reducible refine Cnt.go (by assumption) ?_))
    all_goals (unfold Hold at *; rw [hr]; try simp [ex0])
set_option maxHeartbeats 4000000 in
theorem ok_make3 (l : List Ex) (x : Int) : Okat Tryz.prog 16 [.int .i64 3, .agg [.sl (encL l) .no, .int .i64 x]] (mkRes 3 l x) := by
  have hkk : (1 : Int) ≤ 3 ∧ (3 : Int) ≤ 7 := ⟨by omega, by omega⟩
  have hE := (((((EnvOk.nil (P := Tryz.prog) (eq := fun _ => false) (own := fun _ => false) (mem := fun _ => false) EqOk.none).addf ok_schema).addf ok_sSorted).addf ok_At).addf ok_mk3)
  refine ⟨⟨Tryz.f16, Tryz.func16, by decide, rfl⟩, pure_of_T Tryz.func16 rfl (by simp [Tryz.ntmps16]) fun q => ?_⟩
  have hpk : pickR 3 = .tup [.agg (rowC 3 ⟨#[102, 102]⟩ false 118 120), .bool true] := rfl
  have hz : ByteArray.size ⟨#[102, 102]⟩ = 2 := rfl
  have hd0 : decI .i64 [] = some [] := rfl
  by_cases c1 : l.length = 2
  rotate_left
  · have hr : Hold (mkRes 3 l x = .tup [enc ex0, .int .i64 71]) := mkRes_bad (mk_parts hkk fun h => c1 (h.1.trans hz)) (by omega)
    have c1i : ¬ (l.length : Int) = 2 := by omega
    clear hkk
    repeat' (first | (with_reducible refine T.sq fun K hK => ?_) | ((first | ((with_reducible refine T.reg hE ?hd ?_); (case hd => kernel_rfl)) | ((with_reducible refine T.any hE mixed ?hd ?hok ?_); (case hd => kernel_rfl); (case hok => kernel_rfl))); simp [*]; (repeat' (split; all_goals (rename_i hc; try simp [*])))) | ((with_reducible refine T.ret ?_); refine fin_pure ?_; simp [*]; try (change Hold _)) | (with_reducible refine T.block ?_) | ((with_reducible refine T.skip ?_); simp [*]) | ((with_reducible refine T.exit ?_); simp [*]) | ((with_reducible refine T.br fun K1 K2 hK1 hK2 => ?_); simp [*]; try ((refine Br.intro (fun hc => ?_) (fun hc => ?_)) <;> (try simp at hc))) | (with_reducible refine Cont.go (by assumption) _ ?_) | (with_reducible refine Cnt.go (by assumption) ?_))
    all_goals (unfold Hold at *; rw [hr]; try simp [ex0])
  have c1i : (l.length : Int) = 2 := by omega
  by_cases c2 : x < 0
  · have hr : Hold (mkRes 3 l x = .tup [enc ex0, .int .i64 71]) := mkRes_bad (mk_parts hkk fun h => by have := h.2.1; omega) (by omega)
    clear hkk
    repeat' (first | (with_reducible refine T.sq fun K hK => ?_) | ((first | ((with_reducible refine T.reg hE ?hd ?_); (case hd => kernel_rfl)) | ((with_reducible refine T.any hE mixed ?hd ?hok ?_); (case hd => kernel_rfl); (case hok => kernel_rfl))); simp [*]; (repeat' (split; all_goals (rename_i hc; try simp [*])))) | ((with_reducible refine T.ret ?_); refine fin_pure ?_; simp [*]; try (change Hold _)) | (with_reducible refine T.block ?_) | ((with_reducible refine T.skip ?_); simp [*]) | ((with_reducible refine T.exit ?_); simp [*]) | ((with_reducible refine T.br fun K1 K2 hK1 hK2 => ?_); simp [*]; try ((refine Br.intro (fun hc => ?_) (fun hc => ?_)) <;> (try simp at hc))) | (with_reducible refine Cont.go (by assumption) _ ?_) | (with_reducible refine Cnt.go (by assumption) ?_))
    all_goals (unfold Hold at *; rw [hr]; try simp [ex0])
  by_cases c3 : 63 < x
  · have hr : Hold (mkRes 3 l x = .tup [enc ex0, .int .i64 71]) := mkRes_bad (mk_parts hkk fun h => by have := h.2.2.1; omega) (by omega)
    clear hkk
    repeat' (first | (with_reducible refine T.sq fun K hK => ?_) | ((first | ((with_reducible refine T.reg hE ?hd ?_); (case hd => kernel_rfl)) | ((with_reducible refine T.any hE mixed ?hd ?hok ?_); (case hd => kernel_rfl); (case hok => kernel_rfl))); simp [*]; (repeat' (split; all_goals (rename_i hc; try simp [*])))) | ((with_reducible refine T.ret ?_); refine fin_pure ?_; simp [*]; try (change Hold _)) | (with_reducible refine T.block ?_) | ((with_reducible refine T.skip ?_); simp [*]) | ((with_reducible refine T.exit ?_); simp [*]) | ((with_reducible refine T.br fun K1 K2 hK1 hK2 => ?_); simp [*]; try ((refine Br.intro (fun hc => ?_) (fun hc => ?_)) <;> (try simp at hc))) | (with_reducible refine Cont.go (by assumption) _ ?_) | (with_reducible refine Cnt.go (by assumption) ?_))
    all_goals (unfold Hold at *; rw [hr]; try simp [ex0])
  by_cases c4 : x = 0
  rotate_left
  · have hr : Hold (mkRes 3 l x = .tup [enc ex0, .int .i64 71]) := mkRes_bad (mk_parts hkk fun h => h.2.2.2.elim (fun h => by cases h) c4) (by omega)
    clear hkk
    repeat' (first | (with_reducible refine T.sq fun K hK => ?_) | ((first | ((with_reducible refine T.reg hE ?hd ?_); (case hd => kernel_rfl)) | ((with_reducible refine T.any hE mixed ?hd ?hok ?_); (case hd => kernel_rfl); (case hok => kernel_rfl))); simp [*]; (repeat' (split; all_goals (rename_i hc; try simp [*])))) | ((with_reducible refine T.ret ?_); refine fin_pure ?_; simp [*]; try (change Hold _)) | (with_reducible refine T.block ?_) | ((with_reducible refine T.skip ?_); simp [*]) | ((with_reducible refine T.exit ?_); simp [*]) | ((with_reducible refine T.br fun K1 K2 hK1 hK2 => ?_); simp [*]; try ((refine Br.intro (fun hc => ?_) (fun hc => ?_)) <;> (try simp at hc))) | (with_reducible refine Cont.go (by assumption) _ ?_) | (with_reducible refine Cnt.go (by assumption) ?_))
    all_goals (unfold Hold at *; rw [hr]; try simp [ex0])
  have hp : Prt 3 l x := ⟨c1.trans hz.symm, by omega, by omega, .inr c4⟩
  subst c4
  by_cases s : sortE l ⟨#[102, 102]⟩ = 0
  rotate_left
  · have hr : Hold (mkRes 3 l 0 = .tup [enc ex0, .int .i64 (sortE l ⟨#[102, 102]⟩)]) := mkRes_bad (mk_sort hkk hp s) s
    clear hp
    clear hkk
    repeat' (first | (with_reducible refine T.sq fun K hK => ?_) | ((first | ((with_reducible refine T.reg hE ?hd ?_); (case hd => kernel_rfl)) | ((with_reducible refine T.any hE mixed ?hd ?hok ?_); (case hd => kernel_rfl); (case hok => kernel_rfl))); simp [*]; (repeat' (split; all_goals (rename_i hc; try simp [*])))) | ((with_reducible refine T.ret ?_); refine fin_pure ?_; simp [*]; try (change Hold _)) | (with_reducible refine T.block ?_) | ((with_reducible refine T.skip ?_); simp [*]) | ((with_reducible refine T.exit ?_); simp [*]) | ((with_reducible refine T.br fun K1 K2 hK1 hK2 => ?_); simp [*]; try ((refine Br.intro (fun hc => ?_) (fun hc => ?_)) <;> (try simp at hc))) | (with_reducible refine Cont.go (by assumption) _ ?_) | (with_reducible refine Cnt.go (by assumption) ?_))
    all_goals (unfold Hold at *; rw [hr]; try simp [ex0])
  have hok : okMk 3 l 0 := ⟨c1.trans hz.symm, s, by omega, by omega⟩
  have hmv : mkV 3 l 0 = .tup [enc (instE 3 l 0), .bool (sideB 3 l 0)] := rfl
  have b : sideB 3 l 0 = true := rfl
  have hrt := mk_right hkk hp s b
  have hkd := mk_kind (k := 3) (l := l) (x := 0)
  rw [b] at hmv
  have hgood : mkErr 3 l 0 = 0 → mkRes 3 l 0 = .tup [enc (instE 3 l 0), .int .i64 0] := mkRes_good
  have hbad : ∀ n, mkErr 3 l 0 = n → n ≠ 0 → mkRes 3 l 0 = .tup [enc ex0, .int .i64 n] := fun n h1 h2 => mkRes_bad h1 h2
  clear hkk hp b
  generalize instE 3 l 0 = I at *
  have hpv := partV_nil0 I
  by_cases u : rightE I = 0
  · have hr : Hold _ := hgood (hrt.trans u)
    rw [frV_good u] at hpv
    clear hgood hbad hrt
    repeat' (first | (with_reducible refine T.sq fun K hK => ?_) | ((first | ((with_reducible refine T.reg hE ?hd ?_); (case hd => kernel_rfl)) | ((with_reducible refine T.any hE mixed ?hd ?hok ?_); (case hd => kernel_rfl); (case hok => kernel_rfl))); simp [*]; (repeat' (split; all_goals (rename_i hc; try simp [*])))) | ((with_reducible refine T.ret ?_); refine fin_pure ?_; simp [*]; try (change Hold _)) | (with_reducible refine T.block ?_) | ((with_reducible refine T.skip ?_); simp [*]) | ((with_reducible refine T.exit ?_); simp [*]) | ((with_reducible refine T.br fun K1 K2 hK1 hK2 => ?_); simp [*]; try ((refine Br.intro (fun hc => ?_) (fun hc => ?_)) <;> (try simp at hc))) | (with_reducible refine Cont.go (by assumption) _ ?_) | (with_reducible refine Cnt.go (by assumption) ?_))
    all_goals (unfold Hold at *; rw [hr]; try simp)
  · have hr : Hold _ := hbad _ hrt u
    rw [frV_bad rfl u] at hpv
    clear hgood hbad hrt
    repeat' (first | (with_reducible refine T.sq fun K hK => ?_) | ((first | ((with_reducible refine T.reg hE ?hd ?_); (case hd => kernel_rfl)) | ((with_reducible refine T.any hE mixed ?hd ?hok ?_); (case hd => kernel_rfl); (case hok => kernel_rfl))); simp [*]; (repeat' (split; all_goals (rename_i hc; try simp [*])))) | ((with_reducible refine T.ret ?_); refine fin_pure ?_; simp [*]; try (change Hold _)) | (with_reducible refine T.block ?_) | ((with_reducible refine T.skip ?_); simp [*]) | ((with_reducible refine T.exit ?_); simp [*]) | ((with_reducible refine T.br fun K1 K2 hK1 hK2 => ?_); simp [*]; try ((refine Br.intro (fun hc => ?_) (fun hc => ?_)) <;> (try simp at hc))) | (with_reducible refine Cont.go (by assumption) _ ?_) | (with_reducible refine Cnt.go (by assumption) ?_))
    all_goals (unfold Hold at *; rw [hr]; try simp [ex0])
theorem four_err {l : List Ex} {x : Int} (h : okMk 4 l x) (v : ¬ rightE (psX l x) = 0) : rightE (instE 4 l x) = 20 ∨ rightE (instE 4 l x) = 21 := by
  obtain ⟨hl, hs, hx0, hx1⟩ := h
  obtain ⟨a, t, rfl⟩ := len_two hl
  obtain ⟨hall, hso⟩ := sortE_ok hs
  have hT : isT t = true := by
    simp [srtS, sortsOk] at hso
    exact hso.2
  have h4 := err_four (x := x) (hall a (by simp)) (hall t (by simp)) hT
  have e : instE 4 [a, t] x = impX (allQ x a) (psF (sgF x t) a) := by unfold instE psX; simp
  have e2 : psX [a, t] x = psF (sgF x t) a := rfl
  rw [e2] at v
  rw [e, h4]
  repeat' split
  all_goals first | exact .inl rfl | exact .inr rfl | contradiction
set_option maxHeartbeats 4000000 in
theorem ok_make4 (l : List Ex) (x : Int) : Okat Tryz.prog 16 [.int .i64 4, .agg [.sl (encL l) .no, .int .i64 x]] (mkRes 4 l x) := by
  have hkk : (1 : Int) ≤ 4 ∧ (4 : Int) ≤ 7 := ⟨by omega, by omega⟩
  have hE := (((((EnvOk.nil (P := Tryz.prog) (eq := fun _ => false) (own := fun _ => false) (mem := fun _ => false) EqOk.none).addf ok_schema).addf ok_sSorted).addf ok_At).addf ok_mk4)
  refine ⟨⟨Tryz.f16, Tryz.func16, by decide, rfl⟩, pure_of_T Tryz.func16 rfl (by simp [Tryz.ntmps16]) fun q => ?_⟩
  have hpk : pickR 4 = .tup [.agg (rowC 4 ⟨#[102, 116]⟩ true 121 122), .bool true] := rfl
  have hz : ByteArray.size ⟨#[102, 116]⟩ = 2 := rfl
  have hd0 : decI .i64 [] = some [] := rfl
  by_cases c1 : l.length = 2
  rotate_left
  · have hr : Hold (mkRes 4 l x = .tup [enc ex0, .int .i64 71]) := mkRes_bad (mk_parts hkk fun h => c1 (h.1.trans hz)) (by omega)
    have c1i : ¬ (l.length : Int) = 2 := by omega
    clear hkk
    repeat' (first | (with_reducible refine T.sq fun K hK => ?_) | ((first | ((with_reducible refine T.reg hE ?hd ?_); (case hd => kernel_rfl)) | ((with_reducible refine T.any hE mixed ?hd ?hok ?_); (case hd => kernel_rfl); (case hok => kernel_rfl))); simp [*]; (repeat' (split; all_goals (rename_i hc; try simp [*])))) | ((with_reducible refine T.ret ?_); refine fin_pure ?_; simp [*]; try (change Hold _)) | (with_reducible refine T.block ?_) | ((with_reducible refine T.skip ?_); simp [*]) | ((with_reducible refine T.exit ?_); simp [*]) | ((with_reducible refine T.br fun K1 K2 hK1 hK2 => ?_); simp [*]; try ((refine Br.intro (fun hc => ?_) (fun hc => ?_)) <;> (try simp at hc))) | (with_reducible refine Cont.go (by assumption) _ ?_) | (with_reducible refine Cnt.go (by assumption) ?_))
    all_goals (unfold Hold at *; rw [hr]; try simp [ex0])
  have c1i : (l.length : Int) = 2 := by omega
  by_cases c2 : x < 0
  · have hr : Hold (mkRes 4 l x = .tup [enc ex0, .int .i64 71]) := mkRes_bad (mk_parts hkk fun h => by have := h.2.1; omega) (by omega)
    clear hkk
    repeat' (first | (with_reducible refine T.sq fun K hK => ?_) | ((first | ((with_reducible refine T.reg hE ?hd ?_); (case hd => kernel_rfl)) | ((with_reducible refine T.any hE mixed ?hd ?hok ?_); (case hd => kernel_rfl); (case hok => kernel_rfl))); simp [*]; (repeat' (split; all_goals (rename_i hc; try simp [*])))) | ((with_reducible refine T.ret ?_); refine fin_pure ?_; simp [*]; try (change Hold _)) | (with_reducible refine T.block ?_) | ((with_reducible refine T.skip ?_); simp [*]) | ((with_reducible refine T.exit ?_); simp [*]) | ((with_reducible refine T.br fun K1 K2 hK1 hK2 => ?_); simp [*]; try ((refine Br.intro (fun hc => ?_) (fun hc => ?_)) <;> (try simp at hc))) | (with_reducible refine Cont.go (by assumption) _ ?_) | (with_reducible refine Cnt.go (by assumption) ?_))
    all_goals (unfold Hold at *; rw [hr]; try simp [ex0])
  by_cases c3 : 63 < x
  · have hr : Hold (mkRes 4 l x = .tup [enc ex0, .int .i64 71]) := mkRes_bad (mk_parts hkk fun h => by have := h.2.2.1; omega) (by omega)
    clear hkk
    repeat' (first | (with_reducible refine T.sq fun K hK => ?_) | ((first | ((with_reducible refine T.reg hE ?hd ?_); (case hd => kernel_rfl)) | ((with_reducible refine T.any hE mixed ?hd ?hok ?_); (case hd => kernel_rfl); (case hok => kernel_rfl))); simp [*]; (repeat' (split; all_goals (rename_i hc; try simp [*])))) | ((with_reducible refine T.ret ?_); refine fin_pure ?_; simp [*]; try (change Hold _)) | (with_reducible refine T.block ?_) | ((with_reducible refine T.skip ?_); simp [*]) | ((with_reducible refine T.exit ?_); simp [*]) | ((with_reducible refine T.br fun K1 K2 hK1 hK2 => ?_); simp [*]; try ((refine Br.intro (fun hc => ?_) (fun hc => ?_)) <;> (try simp at hc))) | (with_reducible refine Cont.go (by assumption) _ ?_) | (with_reducible refine Cnt.go (by assumption) ?_))
    all_goals (unfold Hold at *; rw [hr]; try simp [ex0])
  have hp : Prt 4 l x := ⟨c1.trans hz.symm, by omega, by omega, .inl rfl⟩
  by_cases s : sortE l ⟨#[102, 116]⟩ = 0
  rotate_left
  · have hr : Hold (mkRes 4 l x = .tup [enc ex0, .int .i64 (sortE l ⟨#[102, 116]⟩)]) := mkRes_bad (mk_sort hkk hp s) s
    clear hp
    clear hkk
    repeat' (first | (with_reducible refine T.sq fun K hK => ?_) | ((first | ((with_reducible refine T.reg hE ?hd ?_); (case hd => kernel_rfl)) | ((with_reducible refine T.any hE mixed ?hd ?hok ?_); (case hd => kernel_rfl); (case hok => kernel_rfl))); simp [*]; (repeat' (split; all_goals (rename_i hc; try simp [*])))) | ((with_reducible refine T.ret ?_); refine fin_pure ?_; simp [*]; try (change Hold _)) | (with_reducible refine T.block ?_) | ((with_reducible refine T.skip ?_); simp [*]) | ((with_reducible refine T.exit ?_); simp [*]) | ((with_reducible refine T.br fun K1 K2 hK1 hK2 => ?_); simp [*]; try ((refine Br.intro (fun hc => ?_) (fun hc => ?_)) <;> (try simp at hc))) | (with_reducible refine Cont.go (by assumption) _ ?_) | (with_reducible refine Cnt.go (by assumption) ?_))
    all_goals (unfold Hold at *; rw [hr]; try simp [ex0])
  have hok : okMk 4 l x := ⟨c1.trans hz.symm, s, by omega, by omega⟩
  by_cases b : sideB 4 l x = true
  rotate_left
  · have hmv : mkV 4 l x = .tup [enc ex0, .bool false] := by unfold mkV; rw [if_pos rfl, if_neg b]
    rw [Bool.not_eq_true] at b
    have hr : Hold (mkRes 4 l x = .tup [enc ex0, .int .i64 72]) := mkRes_bad (mk_side hkk hp s b) (by omega)
    clear hp
    clear hkk
    repeat' (first | (with_reducible refine T.sq fun K hK => ?_) | ((first | ((with_reducible refine T.reg hE ?hd ?_); (case hd => kernel_rfl)) | ((with_reducible refine T.any hE mixed ?hd ?hok ?_); (case hd => kernel_rfl); (case hok => kernel_rfl))); simp [*]; (repeat' (split; all_goals (rename_i hc; try simp [*])))) | ((with_reducible refine T.ret ?_); refine fin_pure ?_; simp [*]; try (change Hold _)) | (with_reducible refine T.block ?_) | ((with_reducible refine T.skip ?_); simp [*]) | ((with_reducible refine T.exit ?_); simp [*]) | ((with_reducible refine T.br fun K1 K2 hK1 hK2 => ?_); simp [*]; try ((refine Br.intro (fun hc => ?_) (fun hc => ?_)) <;> (try simp at hc))) | (with_reducible refine Cont.go (by assumption) _ ?_) | (with_reducible refine Cnt.go (by assumption) ?_))
    all_goals (unfold Hold at *; rw [hr]; try simp [ex0])
  have hrt := mk_right hkk hp s b
  have hkd := mk_kind (k := 4) (l := l) (x := x)
  have hgood : mkErr 4 l x = 0 → mkRes 4 l x = .tup [enc (instE 4 l x), .int .i64 0] := mkRes_good
  have hbad : ∀ n, mkErr 4 l x = n → n ≠ 0 → mkRes 4 l x = .tup [enc ex0, .int .i64 n] := fun n h1 h2 => mkRes_bad h1 h2
  by_cases v : rightE (psX l x) = 0
  · have hmv : mkV 4 l x = .tup [enc (instE 4 l x), .bool true] := by unfold mkV; rw [if_pos rfl, if_pos b, if_pos v]
    clear hkk hp b
    generalize instE 4 l x = I at *
    have hpv := partV_nil0 I
    by_cases u : rightE I = 0
    · have hr : Hold _ := hgood (hrt.trans u)
      rw [frV_good u] at hpv
      clear hgood hbad hrt
      repeat' (first | (with_reducible refine T.sq fun K hK => ?_) | ((first | ((with_reducible refine T.reg hE ?hd ?_); (case hd => kernel_rfl)) | ((with_reducible refine T.any hE mixed ?hd ?hok ?_); (case hd => kernel_rfl); (case hok => kernel_rfl))); simp [*]; (repeat' (split; all_goals (rename_i hc; try simp [*])))) | ((with_reducible refine T.ret ?_); refine fin_pure ?_; simp [*]; try (change Hold _)) | (with_reducible refine T.block ?_) | ((with_reducible refine T.skip ?_); simp [*]) | ((with_reducible refine T.exit ?_); simp [*]) | ((with_reducible refine T.br fun K1 K2 hK1 hK2 => ?_); simp [*]; try ((refine Br.intro (fun hc => ?_) (fun hc => ?_)) <;> (try simp at hc))) | (with_reducible refine Cont.go (by assumption) _ ?_) | (with_reducible refine Cnt.go (by assumption) ?_))
      all_goals (unfold Hold at *; rw [hr]; try simp)
    · have hr : Hold _ := hbad _ hrt u
      rw [frV_bad rfl u] at hpv
      clear hgood hbad hrt
      repeat' (first | (with_reducible refine T.sq fun K hK => ?_) | ((first | ((with_reducible refine T.reg hE ?hd ?_); (case hd => kernel_rfl)) | ((with_reducible refine T.any hE mixed ?hd ?hok ?_); (case hd => kernel_rfl); (case hok => kernel_rfl))); simp [*]; (repeat' (split; all_goals (rename_i hc; try simp [*])))) | ((with_reducible refine T.ret ?_); refine fin_pure ?_; simp [*]; try (change Hold _)) | (with_reducible refine T.block ?_) | ((with_reducible refine T.skip ?_); simp [*]) | ((with_reducible refine T.exit ?_); simp [*]) | ((with_reducible refine T.br fun K1 K2 hK1 hK2 => ?_); simp [*]; try ((refine Br.intro (fun hc => ?_) (fun hc => ?_)) <;> (try simp at hc))) | (with_reducible refine Cont.go (by assumption) _ ?_) | (with_reducible refine Cnt.go (by assumption) ?_))
      all_goals (unfold Hold at *; rw [hr]; try simp [ex0])
  · have hmv : mkV 4 l x = .tup [enc (.mk (-(rightE (instE 4 l x))) 0 []), .bool true] := by unfold mkV; rw [if_pos rfl, if_pos b, if_neg v]
    have h2021 := four_err hok v
    clear hkk hp b hgood
    rcases h2021 with e | e
    all_goals (
      rw [e] at hmv hrt
      have hr : Hold _ := hbad _ hrt (by omega)
      have hw20 : IntKind.i64.wrap 20 = 20 := wrap64 (by omega) (by omega)
      have hw21 : IntKind.i64.wrap 21 = 21 := wrap64 (by omega) (by omega)
      clear hbad hrt
      replace hE := hE.withCl (fun n => n == 73)
      refine T.sq fun K hK => ?_
      obtain ⟨hgo⟩ := hK
      repeat' (first | (with_reducible refine T.sq fun K hK => ?_) | ((first | ((with_reducible refine T.reg hE ?hd ?_); (case hd => kernel_rfl)) | ((with_reducible refine T.any hE mixed ?hd ?hok ?_); (case hd => kernel_rfl); (case hok => kernel_rfl))); simp [*]; (repeat' (split; all_goals (rename_i hc; try simp [*])))) | ((with_reducible refine T.ret ?_); refine fin_pure ?_; simp [*]; try (change Hold _)) | (with_reducible refine T.block ?_) | ((with_reducible refine T.skip ?_); simp [*]) | ((with_reducible refine T.exit ?_); simp [*]) | ((with_reducible refine T.br fun K1 K2 hK1 hK2 => ?_); simp [*]; try ((refine Br.intro (fun hc => ?_) (fun hc => ?_)) <;> (try simp at hc))) | (with_reducible refine Cont.go (by assumption) _ ?_) | (with_reducible refine Cnt.go (by assumption) ?_))
      refine hgo _ ?_
      clear hgo
      refine T.sq fun K hK => ?_
      obtain ⟨hgo⟩ := hK
      repeat' (first | (with_reducible refine T.sq fun K hK => ?_) | ((first | ((with_reducible refine T.reg hE ?hd ?_); (case hd => kernel_rfl)) | ((with_reducible refine T.any hE mixed ?hd ?hok ?_); (case hd => kernel_rfl); (case hok => kernel_rfl))); simp [*]; (repeat' (split; all_goals (rename_i hc; try simp [*])))) | ((with_reducible refine T.ret ?_); refine fin_pure ?_; simp [*]; try (change Hold _)) | (with_reducible refine T.block ?_) | ((with_reducible refine T.skip ?_); simp [*]) | ((with_reducible refine T.exit ?_); simp [*]) | ((with_reducible refine T.br fun K1 K2 hK1 hK2 => ?_); simp [*]; try ((refine Br.intro (fun hc => ?_) (fun hc => ?_)) <;> (try simp at hc))) | (with_reducible refine Cont.go (by assumption) _ ?_) | (with_reducible refine Cnt.go (by assumption) ?_))
      refine hgo _ ?_
      clear hgo
      refine T.sq fun K hK => ?_
      obtain ⟨hgo⟩ := hK
      repeat' (first | (with_reducible refine T.sq fun K hK => ?_) | ((first | ((with_reducible refine T.reg hE ?hd ?_); (case hd => kernel_rfl)) | ((with_reducible refine T.any hE mixed ?hd ?hok ?_); (case hd => kernel_rfl); (case hok => kernel_rfl))); simp [*]; (repeat' (split; all_goals (rename_i hc; try simp [*])))) | ((with_reducible refine T.ret ?_); refine fin_pure ?_; simp [*]; try (change Hold _)) | (with_reducible refine T.block ?_) | ((with_reducible refine T.skip ?_); simp [*]) | ((with_reducible refine T.exit ?_); simp [*]) | ((with_reducible refine T.br fun K1 K2 hK1 hK2 => ?_); simp [*]; try ((refine Br.intro (fun hc => ?_) (fun hc => ?_)) <;> (try simp at hc))) | (with_reducible refine Cont.go (by assumption) _ ?_) | (with_reducible refine Cnt.go (by assumption) ?_))
      refine hgo _ ?_
      clear hgo
      refine T.sq fun K hK => ?_
      obtain ⟨hgo⟩ := hK
      repeat' (first | (with_reducible refine T.sq fun K hK => ?_) | ((first | ((with_reducible refine T.reg hE ?hd ?_); (case hd => kernel_rfl)) | ((with_reducible refine T.any hE mixed ?hd ?hok ?_); (case hd => kernel_rfl); (case hok => kernel_rfl))); simp [*]; (repeat' (split; all_goals (rename_i hc; try simp [*])))) | ((with_reducible refine T.ret ?_); refine fin_pure ?_; simp [*]; try (change Hold _)) | (with_reducible refine T.block ?_) | ((with_reducible refine T.skip ?_); simp [*]) | ((with_reducible refine T.exit ?_); simp [*]) | ((with_reducible refine T.br fun K1 K2 hK1 hK2 => ?_); simp [*]; try ((refine Br.intro (fun hc => ?_) (fun hc => ?_)) <;> (try simp at hc))) | (with_reducible refine Cont.go (by assumption) _ ?_) | (with_reducible refine Cnt.go (by assumption) ?_))
      refine hgo _ ?_
      clear hgo
      refine T.sq fun K hK => ?_
      obtain ⟨hgo⟩ := hK
      repeat' (first | (with_reducible refine T.sq fun K hK => ?_) | ((first | ((with_reducible refine T.reg hE ?hd ?_); (case hd => kernel_rfl)) | ((with_reducible refine T.any hE mixed ?hd ?hok ?_); (case hd => kernel_rfl); (case hok => kernel_rfl))); simp [*]; (repeat' (split; all_goals (rename_i hc; try simp [*])))) | ((with_reducible refine T.ret ?_); refine fin_pure ?_; simp [*]; try (change Hold _)) | (with_reducible refine T.block ?_) | ((with_reducible refine T.skip ?_); simp [*]) | ((with_reducible refine T.exit ?_); simp [*]) | ((with_reducible refine T.br fun K1 K2 hK1 hK2 => ?_); simp [*]; try ((refine Br.intro (fun hc => ?_) (fun hc => ?_)) <;> (try simp at hc))) | (with_reducible refine Cont.go (by assumption) _ ?_) | (with_reducible refine Cnt.go (by assumption) ?_))
      refine hgo _ ?_
      clear hgo
      refine T.sq fun K hK => ?_
      obtain ⟨hgo⟩ := hK
      repeat' (first | (with_reducible refine T.sq fun K hK => ?_) | ((first | ((with_reducible refine T.reg hE ?hd ?_); (case hd => kernel_rfl)) | ((with_reducible refine T.any hE mixed ?hd ?hok ?_); (case hd => kernel_rfl); (case hok => kernel_rfl))); simp [*]; (repeat' (split; all_goals (rename_i hc; try simp [*])))) | ((with_reducible refine T.ret ?_); refine fin_pure ?_; simp [*]; try (change Hold _)) | (with_reducible refine T.block ?_) | ((with_reducible refine T.skip ?_); simp [*]) | ((with_reducible refine T.exit ?_); simp [*]) | ((with_reducible refine T.br fun K1 K2 hK1 hK2 => ?_); simp [*]; try ((refine Br.intro (fun hc => ?_) (fun hc => ?_)) <;> (try simp at hc))) | (with_reducible refine Cont.go (by assumption) _ ?_) | (with_reducible refine Cnt.go (by assumption) ?_))
      refine hgo _ ?_
      clear hgo
      refine T.frz 9 (by decide) ?_
      simp [frz]
      repeat' (first | (with_reducible refine T.sq fun K hK => ?_) | ((first | ((with_reducible refine T.reg hE ?hd ?_); (case hd => kernel_rfl)) | ((with_reducible refine T.any hE mixed ?hd ?hok ?_); (case hd => kernel_rfl); (case hok => kernel_rfl))); simp [*]; (repeat' (split; all_goals (rename_i hc; try simp [*])))) | ((with_reducible refine T.ret ?_); refine fin_pure ?_; simp [*]; try (change Hold _)) | (with_reducible refine T.block ?_) | ((with_reducible refine T.skip ?_); simp [*]) | ((with_reducible refine T.exit ?_); simp [*]) | ((with_reducible refine T.br fun K1 K2 hK1 hK2 => ?_); simp [*]; try ((refine Br.intro (fun hc => ?_) (fun hc => ?_)) <;> (try simp at hc))) | (with_reducible refine Cont.go (by assumption) _ ?_) | (with_reducible refine Cnt.go (by assumption) ?_))
      all_goals (unfold Hold at *; rw [hr]; try simp [ex0]))
set_option maxHeartbeats 4000000 in
theorem ok_make5 (l : List Ex) (x : Int) : Okat Tryz.prog 16 [.int .i64 5, .agg [.sl (encL l) .no, .int .i64 x]] (mkRes 5 l x) := by
  have hkk : (1 : Int) ≤ 5 ∧ (5 : Int) ≤ 7 := ⟨by omega, by omega⟩
  have hE := (((((EnvOk.nil (P := Tryz.prog) (eq := fun _ => false) (own := fun _ => false) (mem := fun _ => false) EqOk.none).addf ok_schema).addf ok_sSorted).addf ok_At).addf ok_mk5)
  refine ⟨⟨Tryz.f16, Tryz.func16, by decide, rfl⟩, pure_of_T Tryz.func16 rfl (by simp [Tryz.ntmps16]) fun q => ?_⟩
  have hpk : pickR 5 = .tup [.agg (rowC 5 ⟨#[102, 102]⟩ true 123 126), .bool true] := rfl
  have hz : ByteArray.size ⟨#[102, 102]⟩ = 2 := rfl
  have hd0 : decI .i64 [] = some [] := rfl
  by_cases c1 : l.length = 2
  rotate_left
  · have hr : Hold (mkRes 5 l x = .tup [enc ex0, .int .i64 71]) := mkRes_bad (mk_parts hkk fun h => c1 (h.1.trans hz)) (by omega)
    have c1i : ¬ (l.length : Int) = 2 := by omega
    clear hkk
    repeat' (first | (with_reducible refine T.sq fun K hK => ?_) | ((first | ((with_reducible refine T.reg hE ?hd ?_); (case hd => kernel_rfl)) | ((with_reducible refine T.any hE mixed ?hd ?hok ?_); (case hd => kernel_rfl); (case hok => kernel_rfl))); simp [*]; (repeat' (split; all_goals (rename_i hc; try simp [*])))) | ((with_reducible refine T.ret ?_); refine fin_pure ?_; simp [*]; try (change Hold _)) | (with_reducible refine T.block ?_) | ((with_reducible refine T.skip ?_); simp [*]) | ((with_reducible refine T.exit ?_); simp [*]) | ((with_reducible refine T.br fun K1 K2 hK1 hK2 => ?_); simp [*]; try ((refine Br.intro (fun hc => ?_) (fun hc => ?_)) <;> (try simp at hc))) | (with_reducible refine Cont.go (by assumption) _ ?_) | (with_reducible refine Cnt.go (by assumption) ?_))
    all_goals (unfold Hold at *; rw [hr]; try simp [ex0])
  have c1i : (l.length : Int) = 2 := by omega
  by_cases c2 : x < 0
  · have hr : Hold (mkRes 5 l x = .tup [enc ex0, .int .i64 71]) := mkRes_bad (mk_parts hkk fun h => by have := h.2.1; omega) (by omega)
    clear hkk
    repeat' (first | (with_reducible refine T.sq fun K hK => ?_) | ((first | ((with_reducible refine T.reg hE ?hd ?_); (case hd => kernel_rfl)) | ((with_reducible refine T.any hE mixed ?hd ?hok ?_); (case hd => kernel_rfl); (case hok => kernel_rfl))); simp [*]; (repeat' (split; all_goals (rename_i hc; try simp [*])))) | ((with_reducible refine T.ret ?_); refine fin_pure ?_; simp [*]; try (change Hold _)) | (with_reducible refine T.block ?_) | ((with_reducible refine T.skip ?_); simp [*]) | ((with_reducible refine T.exit ?_); simp [*]) | ((with_reducible refine T.br fun K1 K2 hK1 hK2 => ?_); simp [*]; try ((refine Br.intro (fun hc => ?_) (fun hc => ?_)) <;> (try simp at hc))) | (with_reducible refine Cont.go (by assumption) _ ?_) | (with_reducible refine Cnt.go (by assumption) ?_))
    all_goals (unfold Hold at *; rw [hr]; try simp [ex0])
  by_cases c3 : 63 < x
  · have hr : Hold (mkRes 5 l x = .tup [enc ex0, .int .i64 71]) := mkRes_bad (mk_parts hkk fun h => by have := h.2.2.1; omega) (by omega)
    clear hkk
    repeat' (first | (with_reducible refine T.sq fun K hK => ?_) | ((first | ((with_reducible refine T.reg hE ?hd ?_); (case hd => kernel_rfl)) | ((with_reducible refine T.any hE mixed ?hd ?hok ?_); (case hd => kernel_rfl); (case hok => kernel_rfl))); simp [*]; (repeat' (split; all_goals (rename_i hc; try simp [*])))) | ((with_reducible refine T.ret ?_); refine fin_pure ?_; simp [*]; try (change Hold _)) | (with_reducible refine T.block ?_) | ((with_reducible refine T.skip ?_); simp [*]) | ((with_reducible refine T.exit ?_); simp [*]) | ((with_reducible refine T.br fun K1 K2 hK1 hK2 => ?_); simp [*]; try ((refine Br.intro (fun hc => ?_) (fun hc => ?_)) <;> (try simp at hc))) | (with_reducible refine Cont.go (by assumption) _ ?_) | (with_reducible refine Cnt.go (by assumption) ?_))
    all_goals (unfold Hold at *; rw [hr]; try simp [ex0])
  have hp : Prt 5 l x := ⟨c1.trans hz.symm, by omega, by omega, .inl rfl⟩
  by_cases s : sortE l ⟨#[102, 102]⟩ = 0
  rotate_left
  · have hr : Hold (mkRes 5 l x = .tup [enc ex0, .int .i64 (sortE l ⟨#[102, 102]⟩)]) := mkRes_bad (mk_sort hkk hp s) s
    clear hp
    clear hkk
    repeat' (first | (with_reducible refine T.sq fun K hK => ?_) | ((first | ((with_reducible refine T.reg hE ?hd ?_); (case hd => kernel_rfl)) | ((with_reducible refine T.any hE mixed ?hd ?hok ?_); (case hd => kernel_rfl); (case hok => kernel_rfl))); simp [*]; (repeat' (split; all_goals (rename_i hc; try simp [*])))) | ((with_reducible refine T.ret ?_); refine fin_pure ?_; simp [*]; try (change Hold _)) | (with_reducible refine T.block ?_) | ((with_reducible refine T.skip ?_); simp [*]) | ((with_reducible refine T.exit ?_); simp [*]) | ((with_reducible refine T.br fun K1 K2 hK1 hK2 => ?_); simp [*]; try ((refine Br.intro (fun hc => ?_) (fun hc => ?_)) <;> (try simp at hc))) | (with_reducible refine Cont.go (by assumption) _ ?_) | (with_reducible refine Cnt.go (by assumption) ?_))
    all_goals (unfold Hold at *; rw [hr]; try simp [ex0])
  have hok : okMk 5 l x := ⟨c1.trans hz.symm, s, by omega, by omega⟩
  have hmv : mkV 5 l x = .tup [enc (instE 5 l x), .bool (sideB 5 l x)] := rfl
  by_cases b : sideB 5 l x = true
  rotate_left
  · rw [Bool.not_eq_true] at b
    have hr : Hold (mkRes 5 l x = .tup [enc ex0, .int .i64 72]) := mkRes_bad (mk_side hkk hp s b) (by omega)
    rw [b] at hmv
    clear hp
    clear hkk
    repeat' (first | (with_reducible refine T.sq fun K hK => ?_) | ((first | ((with_reducible refine T.reg hE ?hd ?_); (case hd => kernel_rfl)) | ((with_reducible refine T.any hE mixed ?hd ?hok ?_); (case hd => kernel_rfl); (case hok => kernel_rfl))); simp [*]; (repeat' (split; all_goals (rename_i hc; try simp [*])))) | ((with_reducible refine T.ret ?_); refine fin_pure ?_; simp [*]; try (change Hold _)) | (with_reducible refine T.block ?_) | ((with_reducible refine T.skip ?_); simp [*]) | ((with_reducible refine T.exit ?_); simp [*]) | ((with_reducible refine T.br fun K1 K2 hK1 hK2 => ?_); simp [*]; try ((refine Br.intro (fun hc => ?_) (fun hc => ?_)) <;> (try simp at hc))) | (with_reducible refine Cont.go (by assumption) _ ?_) | (with_reducible refine Cnt.go (by assumption) ?_))
    all_goals (unfold Hold at *; rw [hr]; try simp [ex0])
  have hrt := mk_right hkk hp s b
  have hkd := mk_kind (k := 5) (l := l) (x := x)
  rw [b] at hmv
  have hgood : mkErr 5 l x = 0 → mkRes 5 l x = .tup [enc (instE 5 l x), .int .i64 0] := mkRes_good
  have hbad : ∀ n, mkErr 5 l x = n → n ≠ 0 → mkRes 5 l x = .tup [enc ex0, .int .i64 n] := fun n h1 h2 => mkRes_bad h1 h2
  clear hkk hp b
  generalize instE 5 l x = I at *
  have hpv := partV_nil0 I
  by_cases u : rightE I = 0
  · have hr : Hold _ := hgood (hrt.trans u)
    rw [frV_good u] at hpv
    clear hgood hbad hrt
    repeat' (first | (with_reducible refine T.sq fun K hK => ?_) | ((first | ((with_reducible refine T.reg hE ?hd ?_); (case hd => kernel_rfl)) | ((with_reducible refine T.any hE mixed ?hd ?hok ?_); (case hd => kernel_rfl); (case hok => kernel_rfl))); simp [*]; (repeat' (split; all_goals (rename_i hc; try simp [*])))) | ((with_reducible refine T.ret ?_); refine fin_pure ?_; simp [*]; try (change Hold _)) | (with_reducible refine T.block ?_) | ((with_reducible refine T.skip ?_); simp [*]) | ((with_reducible refine T.exit ?_); simp [*]) | ((with_reducible refine T.br fun K1 K2 hK1 hK2 => ?_); simp [*]; try ((refine Br.intro (fun hc => ?_) (fun hc => ?_)) <;> (try simp at hc))) | (with_reducible refine Cont.go (by assumption) _ ?_) | (with_reducible refine Cnt.go (by assumption) ?_))
    all_goals (unfold Hold at *; rw [hr]; try simp)
  · have hr : Hold _ := hbad _ hrt u
    rw [frV_bad rfl u] at hpv
    clear hgood hbad hrt
    repeat' (first | (with_reducible refine T.sq fun K hK => ?_) | ((first | ((with_reducible refine T.reg hE ?hd ?_); (case hd => kernel_rfl)) | ((with_reducible refine T.any hE mixed ?hd ?hok ?_); (case hd => kernel_rfl); (case hok => kernel_rfl))); simp [*]; (repeat' (split; all_goals (rename_i hc; try simp [*])))) | ((with_reducible refine T.ret ?_); refine fin_pure ?_; simp [*]; try (change Hold _)) | (with_reducible refine T.block ?_) | ((with_reducible refine T.skip ?_); simp [*]) | ((with_reducible refine T.exit ?_); simp [*]) | ((with_reducible refine T.br fun K1 K2 hK1 hK2 => ?_); simp [*]; try ((refine Br.intro (fun hc => ?_) (fun hc => ?_)) <;> (try simp at hc))) | (with_reducible refine Cont.go (by assumption) _ ?_) | (with_reducible refine Cnt.go (by assumption) ?_))
    all_goals (unfold Hold at *; rw [hr]; try simp [ex0])
set_option maxHeartbeats 4000000 in
theorem ok_make6 (l : List Ex) (x : Int) : Okat Tryz.prog 16 [.int .i64 6, .agg [.sl (encL l) .no, .int .i64 x]] (mkRes 6 l x) := by
  have hkk : (1 : Int) ≤ 6 ∧ (6 : Int) ≤ 7 := ⟨by omega, by omega⟩
  have hE := (((((EnvOk.nil (P := Tryz.prog) (eq := fun _ => false) (own := fun _ => false) (mem := fun _ => false) EqOk.none).addf ok_schema).addf ok_sSorted).addf ok_At).addf ok_mk6)
  refine ⟨⟨Tryz.f16, Tryz.func16, by decide, rfl⟩, pure_of_T Tryz.func16 rfl (by simp [Tryz.ntmps16]) fun q => ?_⟩
  have hpk : pickR 6 = .tup [.agg (rowC 6 ⟨#[116]⟩ false 127 129), .bool true] := rfl
  have hz : ByteArray.size ⟨#[116]⟩ = 1 := rfl
  have hd0 : decI .i64 [] = some [] := rfl
  by_cases c1 : l.length = 1
  rotate_left
  · have hr : Hold (mkRes 6 l x = .tup [enc ex0, .int .i64 71]) := mkRes_bad (mk_parts hkk fun h => c1 (h.1.trans hz)) (by omega)
    have c1i : ¬ (l.length : Int) = 1 := by omega
    clear hkk
    repeat' (first | (with_reducible refine T.sq fun K hK => ?_) | ((first | ((with_reducible refine T.reg hE ?hd ?_); (case hd => kernel_rfl)) | ((with_reducible refine T.any hE mixed ?hd ?hok ?_); (case hd => kernel_rfl); (case hok => kernel_rfl))); simp [*]; (repeat' (split; all_goals (rename_i hc; try simp [*])))) | ((with_reducible refine T.ret ?_); refine fin_pure ?_; simp [*]; try (change Hold _)) | (with_reducible refine T.block ?_) | ((with_reducible refine T.skip ?_); simp [*]) | ((with_reducible refine T.exit ?_); simp [*]) | ((with_reducible refine T.br fun K1 K2 hK1 hK2 => ?_); simp [*]; try ((refine Br.intro (fun hc => ?_) (fun hc => ?_)) <;> (try simp at hc))) | (with_reducible refine Cont.go (by assumption) _ ?_) | (with_reducible refine Cnt.go (by assumption) ?_))
    all_goals (unfold Hold at *; rw [hr]; try simp [ex0])
  have c1i : (l.length : Int) = 1 := by omega
  by_cases c2 : x < 0
  · have hr : Hold (mkRes 6 l x = .tup [enc ex0, .int .i64 71]) := mkRes_bad (mk_parts hkk fun h => by have := h.2.1; omega) (by omega)
    clear hkk
    repeat' (first | (with_reducible refine T.sq fun K hK => ?_) | ((first | ((with_reducible refine T.reg hE ?hd ?_); (case hd => kernel_rfl)) | ((with_reducible refine T.any hE mixed ?hd ?hok ?_); (case hd => kernel_rfl); (case hok => kernel_rfl))); simp [*]; (repeat' (split; all_goals (rename_i hc; try simp [*])))) | ((with_reducible refine T.ret ?_); refine fin_pure ?_; simp [*]; try (change Hold _)) | (with_reducible refine T.block ?_) | ((with_reducible refine T.skip ?_); simp [*]) | ((with_reducible refine T.exit ?_); simp [*]) | ((with_reducible refine T.br fun K1 K2 hK1 hK2 => ?_); simp [*]; try ((refine Br.intro (fun hc => ?_) (fun hc => ?_)) <;> (try simp at hc))) | (with_reducible refine Cont.go (by assumption) _ ?_) | (with_reducible refine Cnt.go (by assumption) ?_))
    all_goals (unfold Hold at *; rw [hr]; try simp [ex0])
  by_cases c3 : 63 < x
  · have hr : Hold (mkRes 6 l x = .tup [enc ex0, .int .i64 71]) := mkRes_bad (mk_parts hkk fun h => by have := h.2.2.1; omega) (by omega)
    clear hkk
    repeat' (first | (with_reducible refine T.sq fun K hK => ?_) | ((first | ((with_reducible refine T.reg hE ?hd ?_); (case hd => kernel_rfl)) | ((with_reducible refine T.any hE mixed ?hd ?hok ?_); (case hd => kernel_rfl); (case hok => kernel_rfl))); simp [*]; (repeat' (split; all_goals (rename_i hc; try simp [*])))) | ((with_reducible refine T.ret ?_); refine fin_pure ?_; simp [*]; try (change Hold _)) | (with_reducible refine T.block ?_) | ((with_reducible refine T.skip ?_); simp [*]) | ((with_reducible refine T.exit ?_); simp [*]) | ((with_reducible refine T.br fun K1 K2 hK1 hK2 => ?_); simp [*]; try ((refine Br.intro (fun hc => ?_) (fun hc => ?_)) <;> (try simp at hc))) | (with_reducible refine Cont.go (by assumption) _ ?_) | (with_reducible refine Cnt.go (by assumption) ?_))
    all_goals (unfold Hold at *; rw [hr]; try simp [ex0])
  by_cases c4 : x = 0
  rotate_left
  · have hr : Hold (mkRes 6 l x = .tup [enc ex0, .int .i64 71]) := mkRes_bad (mk_parts hkk fun h => h.2.2.2.elim (fun h => by cases h) c4) (by omega)
    clear hkk
    repeat' (first | (with_reducible refine T.sq fun K hK => ?_) | ((first | ((with_reducible refine T.reg hE ?hd ?_); (case hd => kernel_rfl)) | ((with_reducible refine T.any hE mixed ?hd ?hok ?_); (case hd => kernel_rfl); (case hok => kernel_rfl))); simp [*]; (repeat' (split; all_goals (rename_i hc; try simp [*])))) | ((with_reducible refine T.ret ?_); refine fin_pure ?_; simp [*]; try (change Hold _)) | (with_reducible refine T.block ?_) | ((with_reducible refine T.skip ?_); simp [*]) | ((with_reducible refine T.exit ?_); simp [*]) | ((with_reducible refine T.br fun K1 K2 hK1 hK2 => ?_); simp [*]; try ((refine Br.intro (fun hc => ?_) (fun hc => ?_)) <;> (try simp at hc))) | (with_reducible refine Cont.go (by assumption) _ ?_) | (with_reducible refine Cnt.go (by assumption) ?_))
    all_goals (unfold Hold at *; rw [hr]; try simp [ex0])
  have hp : Prt 6 l x := ⟨c1.trans hz.symm, by omega, by omega, .inr c4⟩
  subst c4
  by_cases s : sortE l ⟨#[116]⟩ = 0
  rotate_left
  · have hr : Hold (mkRes 6 l 0 = .tup [enc ex0, .int .i64 (sortE l ⟨#[116]⟩)]) := mkRes_bad (mk_sort hkk hp s) s
    clear hp
    clear hkk
    repeat' (first | (with_reducible refine T.sq fun K hK => ?_) | ((first | ((with_reducible refine T.reg hE ?hd ?_); (case hd => kernel_rfl)) | ((with_reducible refine T.any hE mixed ?hd ?hok ?_); (case hd => kernel_rfl); (case hok => kernel_rfl))); simp [*]; (repeat' (split; all_goals (rename_i hc; try simp [*])))) | ((with_reducible refine T.ret ?_); refine fin_pure ?_; simp [*]; try (change Hold _)) | (with_reducible refine T.block ?_) | ((with_reducible refine T.skip ?_); simp [*]) | ((with_reducible refine T.exit ?_); simp [*]) | ((with_reducible refine T.br fun K1 K2 hK1 hK2 => ?_); simp [*]; try ((refine Br.intro (fun hc => ?_) (fun hc => ?_)) <;> (try simp at hc))) | (with_reducible refine Cont.go (by assumption) _ ?_) | (with_reducible refine Cnt.go (by assumption) ?_))
    all_goals (unfold Hold at *; rw [hr]; try simp [ex0])
  have hok : okMk 6 l 0 := ⟨c1.trans hz.symm, s, by omega, by omega⟩
  have hmv : mkV 6 l 0 = .tup [enc (instE 6 l 0), .bool (sideB 6 l 0)] := rfl
  have b : sideB 6 l 0 = true := rfl
  have hrt := mk_right hkk hp s b
  have hkd := mk_kind (k := 6) (l := l) (x := 0)
  rw [b] at hmv
  have hgood : mkErr 6 l 0 = 0 → mkRes 6 l 0 = .tup [enc (instE 6 l 0), .int .i64 0] := mkRes_good
  have hbad : ∀ n, mkErr 6 l 0 = n → n ≠ 0 → mkRes 6 l 0 = .tup [enc ex0, .int .i64 n] := fun n h1 h2 => mkRes_bad h1 h2
  clear hkk hp b
  generalize instE 6 l 0 = I at *
  have hpv := partV_nil0 I
  by_cases u : rightE I = 0
  · have hr : Hold _ := hgood (hrt.trans u)
    rw [frV_good u] at hpv
    clear hgood hbad hrt
    repeat' (first | (with_reducible refine T.sq fun K hK => ?_) | ((first | ((with_reducible refine T.reg hE ?hd ?_); (case hd => kernel_rfl)) | ((with_reducible refine T.any hE mixed ?hd ?hok ?_); (case hd => kernel_rfl); (case hok => kernel_rfl))); simp [*]; (repeat' (split; all_goals (rename_i hc; try simp [*])))) | ((with_reducible refine T.ret ?_); refine fin_pure ?_; simp [*]; try (change Hold _)) | (with_reducible refine T.block ?_) | ((with_reducible refine T.skip ?_); simp [*]) | ((with_reducible refine T.exit ?_); simp [*]) | ((with_reducible refine T.br fun K1 K2 hK1 hK2 => ?_); simp [*]; try ((refine Br.intro (fun hc => ?_) (fun hc => ?_)) <;> (try simp at hc))) | (with_reducible refine Cont.go (by assumption) _ ?_) | (with_reducible refine Cnt.go (by assumption) ?_))
    all_goals (unfold Hold at *; rw [hr]; try simp)
  · have hr : Hold _ := hbad _ hrt u
    rw [frV_bad rfl u] at hpv
    clear hgood hbad hrt
    repeat' (first | (with_reducible refine T.sq fun K hK => ?_) | ((first | ((with_reducible refine T.reg hE ?hd ?_); (case hd => kernel_rfl)) | ((with_reducible refine T.any hE mixed ?hd ?hok ?_); (case hd => kernel_rfl); (case hok => kernel_rfl))); simp [*]; (repeat' (split; all_goals (rename_i hc; try simp [*])))) | ((with_reducible refine T.ret ?_); refine fin_pure ?_; simp [*]; try (change Hold _)) | (with_reducible refine T.block ?_) | ((with_reducible refine T.skip ?_); simp [*]) | ((with_reducible refine T.exit ?_); simp [*]) | ((with_reducible refine T.br fun K1 K2 hK1 hK2 => ?_); simp [*]; try ((refine Br.intro (fun hc => ?_) (fun hc => ?_)) <;> (try simp at hc))) | (with_reducible refine Cont.go (by assumption) _ ?_) | (with_reducible refine Cnt.go (by assumption) ?_))
    all_goals (unfold Hold at *; rw [hr]; try simp [ex0])
set_option maxHeartbeats 4000000 in
theorem ok_make7 (l : List Ex) (x : Int) : Okat Tryz.prog 16 [.int .i64 7, .agg [.sl (encL l) .no, .int .i64 x]] (mkRes 7 l x) := by
  have hkk : (1 : Int) ≤ 7 ∧ (7 : Int) ≤ 7 := ⟨by omega, by omega⟩
  have hE := (((((EnvOk.nil (P := Tryz.prog) (eq := fun _ => false) (own := fun _ => false) (mem := fun _ => false) EqOk.none).addf ok_schema).addf ok_sSorted).addf ok_At).addf ok_mk7)
  refine ⟨⟨Tryz.f16, Tryz.func16, by decide, rfl⟩, pure_of_T Tryz.func16 rfl (by simp [Tryz.ntmps16]) fun q => ?_⟩
  have hpk : pickR 7 = .tup [.agg (rowC 7 ⟨#[116, 116, 102, 102]⟩ false 130 132), .bool true] := rfl
  have hz : ByteArray.size ⟨#[116, 116, 102, 102]⟩ = 4 := rfl
  have hd0 : decI .i64 [] = some [] := rfl
  by_cases c1 : l.length = 4
  rotate_left
  · have hr : Hold (mkRes 7 l x = .tup [enc ex0, .int .i64 71]) := mkRes_bad (mk_parts hkk fun h => c1 (h.1.trans hz)) (by omega)
    have c1i : ¬ (l.length : Int) = 4 := by omega
    clear hkk
    repeat' (first | (with_reducible refine T.sq fun K hK => ?_) | ((first | ((with_reducible refine T.reg hE ?hd ?_); (case hd => kernel_rfl)) | ((with_reducible refine T.any hE mixed ?hd ?hok ?_); (case hd => kernel_rfl); (case hok => kernel_rfl))); simp [*]; (repeat' (split; all_goals (rename_i hc; try simp [*])))) | ((with_reducible refine T.ret ?_); refine fin_pure ?_; simp [*]; try (change Hold _)) | (with_reducible refine T.block ?_) | ((with_reducible refine T.skip ?_); simp [*]) | ((with_reducible refine T.exit ?_); simp [*]) | ((with_reducible refine T.br fun K1 K2 hK1 hK2 => ?_); simp [*]; try ((refine Br.intro (fun hc => ?_) (fun hc => ?_)) <;> (try simp at hc))) | (with_reducible refine Cont.go (by assumption) _ ?_) | (with_reducible refine Cnt.go (by assumption) ?_))
    all_goals (unfold Hold at *; rw [hr]; try simp [ex0])
  have c1i : (l.length : Int) = 4 := by omega
  by_cases c2 : x < 0
  · have hr : Hold (mkRes 7 l x = .tup [enc ex0, .int .i64 71]) := mkRes_bad (mk_parts hkk fun h => by have := h.2.1; omega) (by omega)
    clear hkk
    repeat' (first | (with_reducible refine T.sq fun K hK => ?_) | ((first | ((with_reducible refine T.reg hE ?hd ?_); (case hd => kernel_rfl)) | ((with_reducible refine T.any hE mixed ?hd ?hok ?_); (case hd => kernel_rfl); (case hok => kernel_rfl))); simp [*]; (repeat' (split; all_goals (rename_i hc; try simp [*])))) | ((with_reducible refine T.ret ?_); refine fin_pure ?_; simp [*]; try (change Hold _)) | (with_reducible refine T.block ?_) | ((with_reducible refine T.skip ?_); simp [*]) | ((with_reducible refine T.exit ?_); simp [*]) | ((with_reducible refine T.br fun K1 K2 hK1 hK2 => ?_); simp [*]; try ((refine Br.intro (fun hc => ?_) (fun hc => ?_)) <;> (try simp at hc))) | (with_reducible refine Cont.go (by assumption) _ ?_) | (with_reducible refine Cnt.go (by assumption) ?_))
    all_goals (unfold Hold at *; rw [hr]; try simp [ex0])
  by_cases c3 : 63 < x
  · have hr : Hold (mkRes 7 l x = .tup [enc ex0, .int .i64 71]) := mkRes_bad (mk_parts hkk fun h => by have := h.2.2.1; omega) (by omega)
    clear hkk
    repeat' (first | (with_reducible refine T.sq fun K hK => ?_) | ((first | ((with_reducible refine T.reg hE ?hd ?_); (case hd => kernel_rfl)) | ((with_reducible refine T.any hE mixed ?hd ?hok ?_); (case hd => kernel_rfl); (case hok => kernel_rfl))); simp [*]; (repeat' (split; all_goals (rename_i hc; try simp [*])))) | ((with_reducible refine T.ret ?_); refine fin_pure ?_; simp [*]; try (change Hold _)) | (with_reducible refine T.block ?_) | ((with_reducible refine T.skip ?_); simp [*]) | ((with_reducible refine T.exit ?_); simp [*]) | ((with_reducible refine T.br fun K1 K2 hK1 hK2 => ?_); simp [*]; try ((refine Br.intro (fun hc => ?_) (fun hc => ?_)) <;> (try simp at hc))) | (with_reducible refine Cont.go (by assumption) _ ?_) | (with_reducible refine Cnt.go (by assumption) ?_))
    all_goals (unfold Hold at *; rw [hr]; try simp [ex0])
  by_cases c4 : x = 0
  rotate_left
  · have hr : Hold (mkRes 7 l x = .tup [enc ex0, .int .i64 71]) := mkRes_bad (mk_parts hkk fun h => h.2.2.2.elim (fun h => by cases h) c4) (by omega)
    clear hkk
    repeat' (first | (with_reducible refine T.sq fun K hK => ?_) | ((first | ((with_reducible refine T.reg hE ?hd ?_); (case hd => kernel_rfl)) | ((with_reducible refine T.any hE mixed ?hd ?hok ?_); (case hd => kernel_rfl); (case hok => kernel_rfl))); simp [*]; (repeat' (split; all_goals (rename_i hc; try simp [*])))) | ((with_reducible refine T.ret ?_); refine fin_pure ?_; simp [*]; try (change Hold _)) | (with_reducible refine T.block ?_) | ((with_reducible refine T.skip ?_); simp [*]) | ((with_reducible refine T.exit ?_); simp [*]) | ((with_reducible refine T.br fun K1 K2 hK1 hK2 => ?_); simp [*]; try ((refine Br.intro (fun hc => ?_) (fun hc => ?_)) <;> (try simp at hc))) | (with_reducible refine Cont.go (by assumption) _ ?_) | (with_reducible refine Cnt.go (by assumption) ?_))
    all_goals (unfold Hold at *; rw [hr]; try simp [ex0])
  have hp : Prt 7 l x := ⟨c1.trans hz.symm, by omega, by omega, .inr c4⟩
  subst c4
  by_cases s : sortE l ⟨#[116, 116, 102, 102]⟩ = 0
  rotate_left
  · have hr : Hold (mkRes 7 l 0 = .tup [enc ex0, .int .i64 (sortE l ⟨#[116, 116, 102, 102]⟩)]) := mkRes_bad (mk_sort hkk hp s) s
    clear hp
    clear hkk
    repeat' (first | (with_reducible refine T.sq fun K hK => ?_) | ((first | ((with_reducible refine T.reg hE ?hd ?_); (case hd => kernel_rfl)) | ((with_reducible refine T.any hE mixed ?hd ?hok ?_); (case hd => kernel_rfl); (case hok => kernel_rfl))); simp [*]; (repeat' (split; all_goals (rename_i hc; try simp [*])))) | ((with_reducible refine T.ret ?_); refine fin_pure ?_; simp [*]; try (change Hold _)) | (with_reducible refine T.block ?_) | ((with_reducible refine T.skip ?_); simp [*]) | ((with_reducible refine T.exit ?_); simp [*]) | ((with_reducible refine T.br fun K1 K2 hK1 hK2 => ?_); simp [*]; try ((refine Br.intro (fun hc => ?_) (fun hc => ?_)) <;> (try simp at hc))) | (with_reducible refine Cont.go (by assumption) _ ?_) | (with_reducible refine Cnt.go (by assumption) ?_))
    all_goals (unfold Hold at *; rw [hr]; try simp [ex0])
  have hok : okMk 7 l 0 := ⟨c1.trans hz.symm, s, by omega, by omega⟩
  have hmv : mkV 7 l 0 = .tup [enc (instE 7 l 0), .bool (sideB 7 l 0)] := rfl
  by_cases b : sideB 7 l 0 = true
  rotate_left
  · rw [Bool.not_eq_true] at b
    have hr : Hold (mkRes 7 l 0 = .tup [enc ex0, .int .i64 72]) := mkRes_bad (mk_side hkk hp s b) (by omega)
    rw [b] at hmv
    clear hp
    clear hkk
    repeat' (first | (with_reducible refine T.sq fun K hK => ?_) | ((first | ((with_reducible refine T.reg hE ?hd ?_); (case hd => kernel_rfl)) | ((with_reducible refine T.any hE mixed ?hd ?hok ?_); (case hd => kernel_rfl); (case hok => kernel_rfl))); simp [*]; (repeat' (split; all_goals (rename_i hc; try simp [*])))) | ((with_reducible refine T.ret ?_); refine fin_pure ?_; simp [*]; try (change Hold _)) | (with_reducible refine T.block ?_) | ((with_reducible refine T.skip ?_); simp [*]) | ((with_reducible refine T.exit ?_); simp [*]) | ((with_reducible refine T.br fun K1 K2 hK1 hK2 => ?_); simp [*]; try ((refine Br.intro (fun hc => ?_) (fun hc => ?_)) <;> (try simp at hc))) | (with_reducible refine Cont.go (by assumption) _ ?_) | (with_reducible refine Cnt.go (by assumption) ?_))
    all_goals (unfold Hold at *; rw [hr]; try simp [ex0])
  have hrt := mk_right hkk hp s b
  have hkd := mk_kind (k := 7) (l := l) (x := 0)
  rw [b] at hmv
  have hgood : mkErr 7 l 0 = 0 → mkRes 7 l 0 = .tup [enc (instE 7 l 0), .int .i64 0] := mkRes_good
  have hbad : ∀ n, mkErr 7 l 0 = n → n ≠ 0 → mkRes 7 l 0 = .tup [enc ex0, .int .i64 n] := fun n h1 h2 => mkRes_bad h1 h2
  clear hkk hp b
  generalize instE 7 l 0 = I at *
  have hpv := partV_nil0 I
  by_cases u : rightE I = 0
  · have hr : Hold _ := hgood (hrt.trans u)
    rw [frV_good u] at hpv
    clear hgood hbad hrt
    repeat' (first | (with_reducible refine T.sq fun K hK => ?_) | ((first | ((with_reducible refine T.reg hE ?hd ?_); (case hd => kernel_rfl)) | ((with_reducible refine T.any hE mixed ?hd ?hok ?_); (case hd => kernel_rfl); (case hok => kernel_rfl))); simp [*]; (repeat' (split; all_goals (rename_i hc; try simp [*])))) | ((with_reducible refine T.ret ?_); refine fin_pure ?_; simp [*]; try (change Hold _)) | (with_reducible refine T.block ?_) | ((with_reducible refine T.skip ?_); simp [*]) | ((with_reducible refine T.exit ?_); simp [*]) | ((with_reducible refine T.br fun K1 K2 hK1 hK2 => ?_); simp [*]; try ((refine Br.intro (fun hc => ?_) (fun hc => ?_)) <;> (try simp at hc))) | (with_reducible refine Cont.go (by assumption) _ ?_) | (with_reducible refine Cnt.go (by assumption) ?_))
    all_goals (unfold Hold at *; rw [hr]; try simp)
  · have hr : Hold _ := hbad _ hrt u
    rw [frV_bad rfl u] at hpv
    clear hgood hbad hrt
    repeat' (first | (with_reducible refine T.sq fun K hK => ?_) | ((first | ((with_reducible refine T.reg hE ?hd ?_); (case hd => kernel_rfl)) | ((with_reducible refine T.any hE mixed ?hd ?hok ?_); (case hd => kernel_rfl); (case hok => kernel_rfl))); simp [*]; (repeat' (split; all_goals (rename_i hc; try simp [*])))) | ((with_reducible refine T.ret ?_); refine fin_pure ?_; simp [*]; try (change Hold _)) | (with_reducible refine T.block ?_) | ((with_reducible refine T.skip ?_); simp [*]) | ((with_reducible refine T.exit ?_); simp [*]) | ((with_reducible refine T.br fun K1 K2 hK1 hK2 => ?_); simp [*]; try ((refine Br.intro (fun hc => ?_) (fun hc => ?_)) <;> (try simp at hc))) | (with_reducible refine Cont.go (by assumption) _ ?_) | (with_reducible refine Cnt.go (by assumption) ?_))
    all_goals (unfold Hold at *; rw [hr]; try simp [ex0])
theorem ok_sMake : PureOk Tryz.prog 16 gMakeR := by
  intro args r h
  obtain ⟨k, ⟨l, x⟩, rfl, ⟨⟩⟩ := f2_inv h
  clear h
  by_cases hk : 1 ≤ k ∧ k ≤ 7
  · rcases (show k = 1 ∨ k = 2 ∨ k = 3 ∨ k = 4 ∨ k = 5 ∨ k = 6 ∨ k = 7 by omega) with rfl | rfl | rfl | rfl | rfl | rfl | rfl
    · exact ok_make1 l x
    · exact ok_make2 l x
    · exact ok_make3 l x
    · exact ok_make4 l x
    · exact ok_make5 l x
    · exact ok_make6 l x
    · exact ok_make7 l x
  · have hE := ((EnvOk.nil (P := Tryz.prog) (eq := fun _ => false) (own := fun _ => false) (mem := fun _ => false) EqOk.none).addf ok_schema)
    refine ⟨⟨Tryz.f16, Tryz.func16, by decide, rfl⟩, pure_of_T Tryz.func16 rfl (by simp [Tryz.ntmps16]) fun q => ?_⟩
    have hpk : pickR k = .tup [.agg rowZ, .bool false] := by
      unfold pickR
      rw [if_neg (by omega), if_neg (by omega), if_neg (by omega), if_neg (by omega), if_neg (by omega), if_neg (by omega), if_neg (by omega)]
    have hpz : rowZ = [.int .i64 0, .str ⟨#[]⟩, .bool false, .nilf, .nilf] := rfl
    rw [hpz] at hpk
    have hr : Hold (mkRes k l x = .tup [enc ex0, .int .i64 70]) := mkRes_bad (mk_none hk) (by omega)
    repeat' (first | (with_reducible refine T.sq fun K hK => ?_) | ((first | ((with_reducible refine T.reg hE ?hd ?_); (case hd => kernel_rfl)) | ((with_reducible refine T.any hE mixed ?hd ?hok ?_); (case hd => kernel_rfl); (case hok => kernel_rfl))); simp [*]; (repeat' (split; all_goals (rename_i hc; try simp [*])))) | ((with_reducible refine T.ret ?_); refine fin_pure ?_; simp [*]; try (change Hold _)) | (with_reducible refine T.block ?_) | ((with_reducible refine T.skip ?_); simp [*]) | ((with_reducible refine T.exit ?_); simp [*]) | ((with_reducible refine T.br fun K1 K2 hK1 hK2 => ?_); simp [*]; try ((refine Br.intro (fun hc => ?_) (fun hc => ?_)) <;> (try simp at hc))) | (with_reducible refine Cont.go (by assumption) _ ?_) | (with_reducible refine Cnt.go (by assumption) ?_))
    all_goals (unfold Hold at *; rw [hr]; try simp [ex0])
end Go.Proofs.YtibfdebhbibfpaaGreat.Ax
