/- Contracts: the rows' ways to find parts. -/
import Derived.Test.YtibfdebhbibfpaaGreatDxI
set_option linter.unusedVariables false
set_option linter.unusedSimpArgs false
namespace Go.Proofs.YtibfdebhbibfpaaGreat.Ax
open Go Go.Proofs

def fdV (k : Int) (e : Ex) : V := match fd k e with
  | some (l, x) => .tup [.sl (encL l) .no, .int .i64 x, .bool true]
  | none => .tup [.sl (encL (if k = 6 then [ex0] else [])) .no, .int .i64 0, .bool false]
def okFd (e : Ex) : Prop := rightE e = 0
noncomputable instance (e : Ex) : Decidable (okFd e) := Classical.propDecidable _
@[simp] noncomputable def gFd (k : Int) : List V → Option V := f1 kE fun e => if okFd e then some (fdV k e) else none
set_option maxHeartbeats 2000000 in
theorem ok_fd1 : PureOk Tryz.prog 114 (gFd 1) := by
  intro args r h
  obtain ⟨e, rfl, hr⟩ := f1_inv h; clear h
  split at hr
  · rename_i hre
    have hre : rightE e = 0 := hre
    cases hr
    have ha := (right_zero hre).2.2
    have hr1 : List.range 1 = [0] := rfl
    have hr2 : List.range 2 = [0, 1] := rfl
    have hr3 : List.range 3 = [0, 1, 2] := rfl
    have hr4 : List.range 4 = [0, 1, 2, 3] := rfl
    have hd1 : decI .i64 [[.int .i64 6], [.int .i64 6]] = some [6, 6] := rfl
    have hd2 : decI .i64 [[.int .i64 1], [.int .i64 0]] = some [1, 0] := rfl
    have hok0 : okAt e [6, 6] [1, 0] := ⟨ha, rfl, by simp, fun i h h2 => by
      match i, h with
      | 0, _ => simp [arK]
      | 1, _ => simp [arK]⟩
    by_cases ce : e.k = 6
    rotate_left
    · have hat0 : aKV e [6, 6] [1, 0] = .tup [enc ex0, .bool false] := by unfold aKV; simp [atK, kd, ce]
      have hv : Hold (fdV 1 e = .tup [.sl (encL []) .no, .int .i64 0, .bool false]) := by unfold Hold fdV fd; simp [atK, kd, ce]
      have hE := ((EnvOk.nil (P := Tryz.prog) (eq := fun _ => false) (own := fun _ => false) (mem := fun _ => false) EqOk.none).addf ok_sAt)
      refine ⟨⟨Tryz.f114, Tryz.func114, by decide, rfl⟩, pure_of_T Tryz.func114 rfl (by simp [Tryz.ntmps114]) fun q => ?_⟩
      repeat' (first | (with_reducible refine T.sq fun K hK => ?_) | ((first | ((with_reducible refine T.reg hE ?hd ?_); (case hd => kernel_rfl)) | ((with_reducible refine T.any hE mixed ?hd ?hok ?_); (case hd => kernel_rfl); (case hok => kernel_rfl))); simp [*]; (repeat' (split; all_goals (rename_i hc; try simp [*])))) | ((with_reducible refine T.ret ?_); refine fin_pure ?_; simp [*]; try (change Hold _)) | (with_reducible refine T.block ?_) | ((with_reducible refine T.skip ?_); simp [*]) | ((with_reducible refine T.exit ?_); simp [*]) | ((with_reducible refine T.br fun K1 K2 hK1 hK2 => ?_); simp [*]; try ((refine Br.intro (fun hc => ?_) (fun hc => ?_)) <;> (try simp at hc))) | (with_reducible refine Cont.go (by assumption) _ ?_) | (with_reducible refine Cnt.go (by assumption) ?_))
      all_goals (unfold Hold at *; rw [hv]; try simp [ex0])
    obtain ⟨p, q, he⟩ := kids_two ha (.inl ce)
    have hap : allX p = true := by have := allX_kids ha; rw [he] at this; exact this p (by simp)
    have haq : allX q = true := by have := allX_kids ha; rw [he] at this; exact this q (by simp)
    by_cases cq : q.k = 6
    rotate_left
    · have hat0 : aKV e [6, 6] [1, 0] = .tup [enc ex0, .bool false] := by unfold aKV; simp [atK, kd, ce, he, cq]
      have hv : Hold (fdV 1 e = .tup [.sl (encL []) .no, .int .i64 0, .bool false]) := by unfold Hold fdV fd; simp [atK, kd, ce, he, cq]
      have eq1 : Ex.mk 6 e.i [p, q] = e := by rw [← ce, ← he, Ex.eta]
      have hE := ((EnvOk.nil (P := Tryz.prog) (eq := fun _ => false) (own := fun _ => false) (mem := fun _ => false) EqOk.none).addf ok_sAt)
      refine ⟨⟨Tryz.f114, Tryz.func114, by decide, rfl⟩, pure_of_T Tryz.func114 rfl (by simp [Tryz.ntmps114]) fun q => ?_⟩
      repeat' (first | (with_reducible refine T.sq fun K hK => ?_) | ((first | ((with_reducible refine T.reg hE ?hd ?_); (case hd => kernel_rfl)) | ((with_reducible refine T.any hE mixed ?hd ?hok ?_); (case hd => kernel_rfl); (case hok => kernel_rfl))); simp [*]; (repeat' (split; all_goals (rename_i hc; try simp [*])))) | ((with_reducible refine T.ret ?_); refine fin_pure ?_; simp [*]; try (change Hold _)) | (with_reducible refine T.block ?_) | ((with_reducible refine T.skip ?_); simp [*]) | ((with_reducible refine T.exit ?_); simp [*]) | ((with_reducible refine T.br fun K1 K2 hK1 hK2 => ?_); simp [*]; try ((refine Br.intro (fun hc => ?_) (fun hc => ?_)) <;> (try simp at hc))) | (with_reducible refine Cont.go (by assumption) _ ?_) | (with_reducible refine Cnt.go (by assumption) ?_))
      all_goals (unfold Hold at *; rw [hv]; try simp [ex0])
    obtain ⟨r, s, hq⟩ := kids_two haq (.inl cq)
    have har : allX r = true := by have := allX_kids haq; rw [hq] at this; exact this r (by simp)
    have has : allX s = true := by have := allX_kids haq; rw [hq] at this; exact this s (by simp)
    have hat0 : aKV e [6, 6] [1, 0] = .tup [enc r, .bool true] := by unfold aKV; simp [atK, kd, ce, he, cq, hq]
    have hv : Hold (fdV 1 e = .tup [.sl (encL [p, r]) .no, .int .i64 0, .bool true]) := by unfold Hold fdV fd; simp [atK, kd, ce, he, cq, hq]
    have eq2 : Ex.mk 6 q.i [r, s] = q := by rw [← cq, ← hq, Ex.eta]
    have eq1 : Ex.mk 6 e.i [p, q] = e := by rw [← ce, ← he, Ex.eta]
    have hE := ((EnvOk.nil (P := Tryz.prog) (eq := fun _ => false) (own := fun _ => false) (mem := fun _ => false) EqOk.none).addf ok_sAt)
    refine ⟨⟨Tryz.f114, Tryz.func114, by decide, rfl⟩, pure_of_T Tryz.func114 rfl (by simp [Tryz.ntmps114]) fun q => ?_⟩
    repeat' (first | (with_reducible refine T.sq fun K hK => ?_) | ((first | ((with_reducible refine T.reg hE ?hd ?_); (case hd => kernel_rfl)) | ((with_reducible refine T.any hE mixed ?hd ?hok ?_); (case hd => kernel_rfl); (case hok => kernel_rfl))); simp [*]; (repeat' (split; all_goals (rename_i hc; try simp [*])))) | ((with_reducible refine T.ret ?_); refine fin_pure ?_; simp [*]; try (change Hold _)) | (with_reducible refine T.block ?_) | ((with_reducible refine T.skip ?_); simp [*]) | ((with_reducible refine T.exit ?_); simp [*]) | ((with_reducible refine T.br fun K1 K2 hK1 hK2 => ?_); simp [*]; try ((refine Br.intro (fun hc => ?_) (fun hc => ?_)) <;> (try simp at hc))) | (with_reducible refine Cont.go (by assumption) _ ?_) | (with_reducible refine Cnt.go (by assumption) ?_))
    all_goals (unfold Hold at *; rw [hv]; try simp [ex0])
  · cases hr
set_option maxHeartbeats 2000000 in
theorem ok_fd2 : PureOk Tryz.prog 117 (gFd 2) := by
  intro args r h
  obtain ⟨e, rfl, hr⟩ := f1_inv h; clear h
  split at hr
  · rename_i hre
    have hre : rightE e = 0 := hre
    cases hr
    have ha := (right_zero hre).2.2
    have hr1 : List.range 1 = [0] := rfl
    have hr2 : List.range 2 = [0, 1] := rfl
    have hr3 : List.range 3 = [0, 1, 2] := rfl
    have hr4 : List.range 4 = [0, 1, 2, 3] := rfl
    have hd1 : decI .i64 [[.int .i64 6], [.int .i64 6], [.int .i64 6]] = some [6, 6, 6] := rfl
    have hd2 : decI .i64 [[.int .i64 0], [.int .i64 1], [.int .i64 1]] = some [0, 1, 1] := rfl
    have hok0 : okAt e [6, 6, 6] [0, 1, 1] := ⟨ha, rfl, by simp, fun i h h2 => by
      match i, h with
      | 0, _ => simp [arK]
      | 1, _ => simp [arK]
      | 2, _ => simp [arK]⟩
    by_cases ce : e.k = 6
    rotate_left
    · have hat0 : aKV e [6, 6, 6] [0, 1, 1] = .tup [enc ex0, .bool false] := by unfold aKV; simp [atK, kd, ce]
      have hv : Hold (fdV 2 e = .tup [.sl (encL []) .no, .int .i64 0, .bool false]) := by unfold Hold fdV fd; simp [atK, kd, ce]
      have hE := ((EnvOk.nil (P := Tryz.prog) (eq := fun _ => false) (own := fun _ => false) (mem := fun _ => false) EqOk.none).addf ok_sAt)
      refine ⟨⟨Tryz.f117, Tryz.func117, by decide, rfl⟩, pure_of_T Tryz.func117 rfl (by simp [Tryz.ntmps117]) fun q => ?_⟩
      repeat' (first | (with_reducible refine T.sq fun K hK => ?_) | ((first | ((with_reducible refine T.reg hE ?hd ?_); (case hd => kernel_rfl)) | ((with_reducible refine T.any hE mixed ?hd ?hok ?_); (case hd => kernel_rfl); (case hok => kernel_rfl))); simp [*]; (repeat' (split; all_goals (rename_i hc; try simp [*])))) | ((with_reducible refine T.ret ?_); refine fin_pure ?_; simp [*]; try (change Hold _)) | (with_reducible refine T.block ?_) | ((with_reducible refine T.skip ?_); simp [*]) | ((with_reducible refine T.exit ?_); simp [*]) | ((with_reducible refine T.br fun K1 K2 hK1 hK2 => ?_); simp [*]; try ((refine Br.intro (fun hc => ?_) (fun hc => ?_)) <;> (try simp at hc))) | (with_reducible refine Cont.go (by assumption) _ ?_) | (with_reducible refine Cnt.go (by assumption) ?_))
      all_goals (unfold Hold at *; rw [hv]; try simp [ex0])
    obtain ⟨p, q, he⟩ := kids_two ha (.inl ce)
    have hap : allX p = true := by have := allX_kids ha; rw [he] at this; exact this p (by simp)
    have haq : allX q = true := by have := allX_kids ha; rw [he] at this; exact this q (by simp)
    by_cases cp : p.k = 6
    rotate_left
    · have hat0 : aKV e [6, 6, 6] [0, 1, 1] = .tup [enc ex0, .bool false] := by unfold aKV; simp [atK, kd, ce, he, cp]
      have hv : Hold (fdV 2 e = .tup [.sl (encL []) .no, .int .i64 0, .bool false]) := by unfold Hold fdV fd; simp [atK, kd, ce, he, cp]
      have eq1 : Ex.mk 6 e.i [p, q] = e := by rw [← ce, ← he, Ex.eta]
      have hE := ((EnvOk.nil (P := Tryz.prog) (eq := fun _ => false) (own := fun _ => false) (mem := fun _ => false) EqOk.none).addf ok_sAt)
      refine ⟨⟨Tryz.f117, Tryz.func117, by decide, rfl⟩, pure_of_T Tryz.func117 rfl (by simp [Tryz.ntmps117]) fun q => ?_⟩
      repeat' (first | (with_reducible refine T.sq fun K hK => ?_) | ((first | ((with_reducible refine T.reg hE ?hd ?_); (case hd => kernel_rfl)) | ((with_reducible refine T.any hE mixed ?hd ?hok ?_); (case hd => kernel_rfl); (case hok => kernel_rfl))); simp [*]; (repeat' (split; all_goals (rename_i hc; try simp [*])))) | ((with_reducible refine T.ret ?_); refine fin_pure ?_; simp [*]; try (change Hold _)) | (with_reducible refine T.block ?_) | ((with_reducible refine T.skip ?_); simp [*]) | ((with_reducible refine T.exit ?_); simp [*]) | ((with_reducible refine T.br fun K1 K2 hK1 hK2 => ?_); simp [*]; try ((refine Br.intro (fun hc => ?_) (fun hc => ?_)) <;> (try simp at hc))) | (with_reducible refine Cont.go (by assumption) _ ?_) | (with_reducible refine Cnt.go (by assumption) ?_))
      all_goals (unfold Hold at *; rw [hv]; try simp [ex0])
    obtain ⟨p0, p1, hp⟩ := kids_two hap (.inl cp)
    have hap0 : allX p0 = true := by have := allX_kids hap; rw [hp] at this; exact this p0 (by simp)
    have hap1 : allX p1 = true := by have := allX_kids hap; rw [hp] at this; exact this p1 (by simp)
    by_cases cp1 : p1.k = 6
    rotate_left
    · have hat0 : aKV e [6, 6, 6] [0, 1, 1] = .tup [enc ex0, .bool false] := by unfold aKV; simp [atK, kd, ce, he, cp, hp, cp1]
      have hv : Hold (fdV 2 e = .tup [.sl (encL []) .no, .int .i64 0, .bool false]) := by unfold Hold fdV fd; simp [atK, kd, ce, he, cp, hp, cp1]
      have eq2 : Ex.mk 6 p.i [p0, p1] = p := by rw [← cp, ← hp, Ex.eta]
      have eq1 : Ex.mk 6 e.i [p, q] = e := by rw [← ce, ← he, Ex.eta]
      have hE := ((EnvOk.nil (P := Tryz.prog) (eq := fun _ => false) (own := fun _ => false) (mem := fun _ => false) EqOk.none).addf ok_sAt)
      refine ⟨⟨Tryz.f117, Tryz.func117, by decide, rfl⟩, pure_of_T Tryz.func117 rfl (by simp [Tryz.ntmps117]) fun q => ?_⟩
      repeat' (first | (with_reducible refine T.sq fun K hK => ?_) | ((first | ((with_reducible refine T.reg hE ?hd ?_); (case hd => kernel_rfl)) | ((with_reducible refine T.any hE mixed ?hd ?hok ?_); (case hd => kernel_rfl); (case hok => kernel_rfl))); simp [*]; (repeat' (split; all_goals (rename_i hc; try simp [*])))) | ((with_reducible refine T.ret ?_); refine fin_pure ?_; simp [*]; try (change Hold _)) | (with_reducible refine T.block ?_) | ((with_reducible refine T.skip ?_); simp [*]) | ((with_reducible refine T.exit ?_); simp [*]) | ((with_reducible refine T.br fun K1 K2 hK1 hK2 => ?_); simp [*]; try ((refine Br.intro (fun hc => ?_) (fun hc => ?_)) <;> (try simp at hc))) | (with_reducible refine Cont.go (by assumption) _ ?_) | (with_reducible refine Cnt.go (by assumption) ?_))
      all_goals (unfold Hold at *; rw [hv]; try simp [ex0])
    obtain ⟨u, v, hp1⟩ := kids_two hap1 (.inl cp1)
    have hau : allX u = true := by have := allX_kids hap1; rw [hp1] at this; exact this u (by simp)
    have hav : allX v = true := by have := allX_kids hap1; rw [hp1] at this; exact this v (by simp)
    have hat0 : aKV e [6, 6, 6] [0, 1, 1] = .tup [enc v, .bool true] := by unfold aKV; simp [atK, kd, ce, he, cp, hp, cp1, hp1]
    have hv : Hold (fdV 2 e = .tup [.sl (encL [p0, u, v]) .no, .int .i64 0, .bool true]) := by unfold Hold fdV fd; simp [atK, kd, ce, he, cp, hp, cp1, hp1]
    have eq3 : Ex.mk 6 p1.i [u, v] = p1 := by rw [← cp1, ← hp1, Ex.eta]
    have eq2 : Ex.mk 6 p.i [p0, p1] = p := by rw [← cp, ← hp, Ex.eta]
    have eq1 : Ex.mk 6 e.i [p, q] = e := by rw [← ce, ← he, Ex.eta]
    have hE := ((EnvOk.nil (P := Tryz.prog) (eq := fun _ => false) (own := fun _ => false) (mem := fun _ => false) EqOk.none).addf ok_sAt)
    refine ⟨⟨Tryz.f117, Tryz.func117, by decide, rfl⟩, pure_of_T Tryz.func117 rfl (by simp [Tryz.ntmps117]) fun q => ?_⟩
    repeat' (first | (with_reducible refine T.sq fun K hK => ?_) | ((first | ((with_reducible refine T.reg hE ?hd ?_); (case hd => kernel_rfl)) | ((with_reducible refine T.any hE mixed ?hd ?hok ?_); (case hd => kernel_rfl); (case hok => kernel_rfl))); simp [*]; (repeat' (split; all_goals (rename_i hc; try simp [*])))) | ((with_reducible refine T.ret ?_); refine fin_pure ?_; simp [*]; try (change Hold _)) | (with_reducible refine T.block ?_) | ((with_reducible refine T.skip ?_); simp [*]) | ((with_reducible refine T.exit ?_); simp [*]) | ((with_reducible refine T.br fun K1 K2 hK1 hK2 => ?_); simp [*]; try ((refine Br.intro (fun hc => ?_) (fun hc => ?_)) <;> (try simp at hc))) | (with_reducible refine Cont.go (by assumption) _ ?_) | (with_reducible refine Cnt.go (by assumption) ?_))
    all_goals (unfold Hold at *; rw [hv]; try simp [ex0])
  · cases hr
set_option maxHeartbeats 2000000 in
theorem ok_fd3 : PureOk Tryz.prog 120 (gFd 3) := by
  intro args r h
  obtain ⟨e, rfl, hr⟩ := f1_inv h; clear h
  split at hr
  · rename_i hre
    have hre : rightE e = 0 := hre
    cases hr
    have ha := (right_zero hre).2.2
    have hr1 : List.range 1 = [0] := rfl
    have hr2 : List.range 2 = [0, 1] := rfl
    have hr3 : List.range 3 = [0, 1, 2] := rfl
    have hr4 : List.range 4 = [0, 1, 2, 3] := rfl
    have hd1 : decI .i64 [[.int .i64 6], [.int .i64 6]] = some [6, 6] := rfl
    have hd2 : decI .i64 [[.int .i64 1], [.int .i64 0]] = some [1, 0] := rfl
    have hok0 : okAt e [6, 6] [1, 0] := ⟨ha, rfl, by simp, fun i h h2 => by
      match i, h with
      | 0, _ => simp [arK]
      | 1, _ => simp [arK]⟩
    by_cases ce : e.k = 6
    rotate_left
    · have hat0 : aKV e [6, 6] [1, 0] = .tup [enc ex0, .bool false] := by unfold aKV; simp [atK, kd, ce]
      have hv : Hold (fdV 3 e = .tup [.sl (encL []) .no, .int .i64 0, .bool false]) := by unfold Hold fdV fd; simp [atK, kd, ce]
      have hE := ((EnvOk.nil (P := Tryz.prog) (eq := fun _ => false) (own := fun _ => false) (mem := fun _ => false) EqOk.none).addf ok_sAt)
      refine ⟨⟨Tryz.f120, Tryz.func120, by decide, rfl⟩, pure_of_T Tryz.func120 rfl (by simp [Tryz.ntmps120]) fun q => ?_⟩
      repeat' (first | (with_reducible refine T.sq fun K hK => ?_) | ((first | ((with_reducible refine T.reg hE ?hd ?_); (case hd => kernel_rfl)) | ((with_reducible refine T.any hE mixed ?hd ?hok ?_); (case hd => kernel_rfl); (case hok => kernel_rfl))); simp [*]; (repeat' (split; all_goals (rename_i hc; try simp [*])))) | ((with_reducible refine T.ret ?_); refine fin_pure ?_; simp [*]; try (change Hold _)) | (with_reducible refine T.block ?_) | ((with_reducible refine T.skip ?_); simp [*]) | ((with_reducible refine T.exit ?_); simp [*]) | ((with_reducible refine T.br fun K1 K2 hK1 hK2 => ?_); simp [*]; try ((refine Br.intro (fun hc => ?_) (fun hc => ?_)) <;> (try simp at hc))) | (with_reducible refine Cont.go (by assumption) _ ?_) | (with_reducible refine Cnt.go (by assumption) ?_))
      all_goals (unfold Hold at *; rw [hv]; try simp [ex0])
    obtain ⟨p, q, he⟩ := kids_two ha (.inl ce)
    have hap : allX p = true := by have := allX_kids ha; rw [he] at this; exact this p (by simp)
    have haq : allX q = true := by have := allX_kids ha; rw [he] at this; exact this q (by simp)
    by_cases cq : q.k = 6
    rotate_left
    · have hat0 : aKV e [6, 6] [1, 0] = .tup [enc ex0, .bool false] := by unfold aKV; simp [atK, kd, ce, he, cq]
      have hv : Hold (fdV 3 e = .tup [.sl (encL []) .no, .int .i64 0, .bool false]) := by unfold Hold fdV fd; simp [atK, kd, ce, he, cq]
      have eq1 : Ex.mk 6 e.i [p, q] = e := by rw [← ce, ← he, Ex.eta]
      have hE := ((EnvOk.nil (P := Tryz.prog) (eq := fun _ => false) (own := fun _ => false) (mem := fun _ => false) EqOk.none).addf ok_sAt)
      refine ⟨⟨Tryz.f120, Tryz.func120, by decide, rfl⟩, pure_of_T Tryz.func120 rfl (by simp [Tryz.ntmps120]) fun q => ?_⟩
      repeat' (first | (with_reducible refine T.sq fun K hK => ?_) | ((first | ((with_reducible refine T.reg hE ?hd ?_); (case hd => kernel_rfl)) | ((with_reducible refine T.any hE mixed ?hd ?hok ?_); (case hd => kernel_rfl); (case hok => kernel_rfl))); simp [*]; (repeat' (split; all_goals (rename_i hc; try simp [*])))) | ((with_reducible refine T.ret ?_); refine fin_pure ?_; simp [*]; try (change Hold _)) | (with_reducible refine T.block ?_) | ((with_reducible refine T.skip ?_); simp [*]) | ((with_reducible refine T.exit ?_); simp [*]) | ((with_reducible refine T.br fun K1 K2 hK1 hK2 => ?_); simp [*]; try ((refine Br.intro (fun hc => ?_) (fun hc => ?_)) <;> (try simp at hc))) | (with_reducible refine Cont.go (by assumption) _ ?_) | (with_reducible refine Cnt.go (by assumption) ?_))
      all_goals (unfold Hold at *; rw [hv]; try simp [ex0])
    obtain ⟨r, s, hq⟩ := kids_two haq (.inl cq)
    have har : allX r = true := by have := allX_kids haq; rw [hq] at this; exact this r (by simp)
    have has : allX s = true := by have := allX_kids haq; rw [hq] at this; exact this s (by simp)
    have hat0 : aKV e [6, 6] [1, 0] = .tup [enc r, .bool true] := by unfold aKV; simp [atK, kd, ce, he, cq, hq]
    have hv : Hold (fdV 3 e = .tup [.sl (encL [s, r]) .no, .int .i64 0, .bool true]) := by unfold Hold fdV fd; simp [atK, kd, ce, he, cq, hq]
    have eq2 : Ex.mk 6 q.i [r, s] = q := by rw [← cq, ← hq, Ex.eta]
    have eq1 : Ex.mk 6 e.i [p, q] = e := by rw [← ce, ← he, Ex.eta]
    have hE := ((EnvOk.nil (P := Tryz.prog) (eq := fun _ => false) (own := fun _ => false) (mem := fun _ => false) EqOk.none).addf ok_sAt)
    refine ⟨⟨Tryz.f120, Tryz.func120, by decide, rfl⟩, pure_of_T Tryz.func120 rfl (by simp [Tryz.ntmps120]) fun q => ?_⟩
    repeat' (first | (with_reducible refine T.sq fun K hK => ?_) | ((first | ((with_reducible refine T.reg hE ?hd ?_); (case hd => kernel_rfl)) | ((with_reducible refine T.any hE mixed ?hd ?hok ?_); (case hd => kernel_rfl); (case hok => kernel_rfl))); simp [*]; (repeat' (split; all_goals (rename_i hc; try simp [*])))) | ((with_reducible refine T.ret ?_); refine fin_pure ?_; simp [*]; try (change Hold _)) | (with_reducible refine T.block ?_) | ((with_reducible refine T.skip ?_); simp [*]) | ((with_reducible refine T.exit ?_); simp [*]) | ((with_reducible refine T.br fun K1 K2 hK1 hK2 => ?_); simp [*]; try ((refine Br.intro (fun hc => ?_) (fun hc => ?_)) <;> (try simp at hc))) | (with_reducible refine Cont.go (by assumption) _ ?_) | (with_reducible refine Cnt.go (by assumption) ?_))
    all_goals (unfold Hold at *; rw [hv]; try simp [ex0])
  · cases hr
set_option maxHeartbeats 2000000 in
theorem ok_fd4 : PureOk Tryz.prog 122 (gFd 4) := by
  intro args r h
  obtain ⟨e, rfl, hr⟩ := f1_inv h; clear h
  split at hr
  · rename_i hre
    have hre : rightE e = 0 := hre
    cases hr
    have ha := (right_zero hre).2.2
    have hr1 : List.range 1 = [0] := rfl
    have hr2 : List.range 2 = [0, 1] := rfl
    have hr3 : List.range 3 = [0, 1, 2] := rfl
    have hr4 : List.range 4 = [0, 1, 2, 3] := rfl
    have hd1 : decI .i64 [[.int .i64 6], [.int .i64 7]] = some [6, 7] := rfl
    have hd2 : decI .i64 [[.int .i64 0], [.int .i64 0]] = some [0, 0] := rfl
    have hok0 : okAt e [6, 7] [0, 0] := ⟨ha, rfl, by simp, fun i h h2 => by
      match i, h with
      | 0, _ => simp [arK]
      | 1, _ => simp [arK]⟩
    by_cases ce : e.k = 6
    rotate_left
    · have hat0 : aKV e [6, 7] [0, 0] = .tup [enc ex0, .bool false] := by unfold aKV; simp [atK, kd, ce]
      have hv : Hold (fdV 4 e = .tup [.sl (encL []) .no, .int .i64 0, .bool false]) := by unfold Hold fdV fd; simp [atK, kd, ce]
      have hE := ((EnvOk.nil (P := Tryz.prog) (eq := fun _ => false) (own := fun _ => false) (mem := fun _ => false) EqOk.none).addf ok_sAt)
      refine ⟨⟨Tryz.f122, Tryz.func122, by decide, rfl⟩, pure_of_T Tryz.func122 rfl (by simp [Tryz.ntmps122]) fun q => ?_⟩
      repeat' (first | (with_reducible refine T.sq fun K hK => ?_) | ((first | ((with_reducible refine T.reg hE ?hd ?_); (case hd => kernel_rfl)) | ((with_reducible refine T.any hE mixed ?hd ?hok ?_); (case hd => kernel_rfl); (case hok => kernel_rfl))); simp [*]; (repeat' (split; all_goals (rename_i hc; try simp [*])))) | ((with_reducible refine T.ret ?_); refine fin_pure ?_; simp [*]; try (change Hold _)) | (with_reducible refine T.block ?_) | ((with_reducible refine T.skip ?_); simp [*]) | ((with_reducible refine T.exit ?_); simp [*]) | ((with_reducible refine T.br fun K1 K2 hK1 hK2 => ?_); simp [*]; try ((refine Br.intro (fun hc => ?_) (fun hc => ?_)) <;> (try simp at hc))) | (with_reducible refine Cont.go (by assumption) _ ?_) | (with_reducible refine Cnt.go (by assumption) ?_))
      all_goals (unfold Hold at *; rw [hv]; try simp [ex0])
    obtain ⟨p, q, he⟩ := kids_two ha (.inl ce)
    have hap : allX p = true := by have := allX_kids ha; rw [he] at this; exact this p (by simp)
    have haq : allX q = true := by have := allX_kids ha; rw [he] at this; exact this q (by simp)
    by_cases cp : p.k = 7
    rotate_left
    · have hat0 : aKV e [6, 7] [0, 0] = .tup [enc ex0, .bool false] := by unfold aKV; simp [atK, kd, ce, he, cp]
      have hv : Hold (fdV 4 e = .tup [.sl (encL []) .no, .int .i64 0, .bool false]) := by unfold Hold fdV fd; simp [atK, kd, ce, he, cp]
      have eq1 : Ex.mk 6 e.i [p, q] = e := by rw [← ce, ← he, Ex.eta]
      have hE := ((EnvOk.nil (P := Tryz.prog) (eq := fun _ => false) (own := fun _ => false) (mem := fun _ => false) EqOk.none).addf ok_sAt)
      refine ⟨⟨Tryz.f122, Tryz.func122, by decide, rfl⟩, pure_of_T Tryz.func122 rfl (by simp [Tryz.ntmps122]) fun q => ?_⟩
      repeat' (first | (with_reducible refine T.sq fun K hK => ?_) | ((first | ((with_reducible refine T.reg hE ?hd ?_); (case hd => kernel_rfl)) | ((with_reducible refine T.any hE mixed ?hd ?hok ?_); (case hd => kernel_rfl); (case hok => kernel_rfl))); simp [*]; (repeat' (split; all_goals (rename_i hc; try simp [*])))) | ((with_reducible refine T.ret ?_); refine fin_pure ?_; simp [*]; try (change Hold _)) | (with_reducible refine T.block ?_) | ((with_reducible refine T.skip ?_); simp [*]) | ((with_reducible refine T.exit ?_); simp [*]) | ((with_reducible refine T.br fun K1 K2 hK1 hK2 => ?_); simp [*]; try ((refine Br.intro (fun hc => ?_) (fun hc => ?_)) <;> (try simp at hc))) | (with_reducible refine Cont.go (by assumption) _ ?_) | (with_reducible refine Cnt.go (by assumption) ?_))
      all_goals (unfold Hold at *; rw [hv]; try simp [ex0])
    obtain ⟨a, hp⟩ := kids_one hap (.inr (.inl cp))
    have haa : allX a = true := by have := allX_kids hap; rw [hp] at this; exact this a (by simp)
    have hat0 : aKV e [6, 7] [0, 0] = .tup [enc a, .bool true] := by unfold aKV; simp [atK, kd, ce, he, cp, hp]
    have hrq : rightE q = 0 := by
      have h1 : (1 : Nat) < e.kids.length := by rw [he]; simp
      have h2 := right_kid hre 1 h1
      have h3 : e.kids[1] = q := by simp [he]
      rwa [h3] at h2
    have hst : okSt a q := ⟨haa, hrq⟩
    obtain ⟨t, ok, ht1, ht2, ht3⟩ := st_ok a q p.i
    have hv0 : Hold (fdV 4 e = .tup [.sl (encL [a, (stE a q p.i).getD (.mk 1 p.i [])]) .no, .int .i64 p.i, .bool true]) := by unfold Hold fdV fd; simp [atK, kd, ce, he, cp, hp]
    have eq2 : Ex.mk 7 p.i [a] = p := by rw [← cp, ← hp, Ex.eta]
    have eq1 : Ex.mk 6 e.i [p, q] = e := by rw [← ce, ← he, Ex.eta]
    cases ok with
    | true =>
      have hv : Hold (fdV 4 e = .tup [.sl (encL [a, t]) .no, .int .i64 p.i, .bool true]) := by unfold Hold at *; rw [hv0, ht2 rfl]; rfl
      clear hv0 ht2 ht3
      have hE := (((EnvOk.nil (P := Tryz.prog) (eq := fun _ => false) (own := fun _ => false) (mem := fun _ => false) EqOk.none).addf ok_sAt).addf ok_sStands)
      refine ⟨⟨Tryz.f122, Tryz.func122, by decide, rfl⟩, pure_of_T Tryz.func122 rfl (by simp [Tryz.ntmps122]) fun q => ?_⟩
      repeat' (first | (with_reducible refine T.sq fun K hK => ?_) | ((first | ((with_reducible refine T.reg hE ?hd ?_); (case hd => kernel_rfl)) | ((with_reducible refine T.any hE mixed ?hd ?hok ?_); (case hd => kernel_rfl); (case hok => kernel_rfl))); simp [*]; (repeat' (split; all_goals (rename_i hc; try simp [*])))) | ((with_reducible refine T.ret ?_); refine fin_pure ?_; simp [*]; try (change Hold _)) | (with_reducible refine T.block ?_) | ((with_reducible refine T.skip ?_); simp [*]) | ((with_reducible refine T.exit ?_); simp [*]) | ((with_reducible refine T.br fun K1 K2 hK1 hK2 => ?_); simp [*]; try ((refine Br.intro (fun hc => ?_) (fun hc => ?_)) <;> (try simp at hc))) | (with_reducible refine Cont.go (by assumption) _ ?_) | (with_reducible refine Cnt.go (by assumption) ?_))
      all_goals (unfold Hold at *; rw [hv]; try simp)
    | false =>
      have hv : Hold (fdV 4 e = .tup [.sl (encL [a, .mk 1 p.i []]) .no, .int .i64 p.i, .bool true]) := by unfold Hold at *; rw [hv0, ht3 rfl]; rfl
      clear hv0 ht2 ht3
      have hE := (((EnvOk.nil (P := Tryz.prog) (eq := fun _ => false) (own := fun _ => false) (mem := fun _ => false) EqOk.none).addf ok_sAt).addf ok_sStands)
      refine ⟨⟨Tryz.f122, Tryz.func122, by decide, rfl⟩, pure_of_T Tryz.func122 rfl (by simp [Tryz.ntmps122]) fun q => ?_⟩
      repeat' (first | (with_reducible refine T.sq fun K hK => ?_) | ((first | ((with_reducible refine T.reg hE ?hd ?_); (case hd => kernel_rfl)) | ((with_reducible refine T.any hE mixed ?hd ?hok ?_); (case hd => kernel_rfl); (case hok => kernel_rfl))); simp [*]; (repeat' (split; all_goals (rename_i hc; try simp [*])))) | ((with_reducible refine T.ret ?_); refine fin_pure ?_; simp [*]; try (change Hold _)) | (with_reducible refine T.block ?_) | ((with_reducible refine T.skip ?_); simp [*]) | ((with_reducible refine T.exit ?_); simp [*]) | ((with_reducible refine T.br fun K1 K2 hK1 hK2 => ?_); simp [*]; try ((refine Br.intro (fun hc => ?_) (fun hc => ?_)) <;> (try simp at hc))) | (with_reducible refine Cont.go (by assumption) _ ?_) | (with_reducible refine Cnt.go (by assumption) ?_))
      all_goals (unfold Hold at *; rw [hv]; try simp)
  · cases hr
set_option maxHeartbeats 2000000 in
theorem ok_fd5 : PureOk Tryz.prog 126 (gFd 5) := by
  intro args r h
  obtain ⟨e, rfl, hr⟩ := f1_inv h; clear h
  split at hr
  · rename_i hre
    have hre : rightE e = 0 := hre
    cases hr
    have ha := (right_zero hre).2.2
    have hr1 : List.range 1 = [0] := rfl
    have hr2 : List.range 2 = [0, 1] := rfl
    have hr3 : List.range 3 = [0, 1, 2] := rfl
    have hr4 : List.range 4 = [0, 1, 2, 3] := rfl
    have hd1 : decI .i64 [[.int .i64 6], [.int .i64 7], [.int .i64 6]] = some [6, 7, 6] := rfl
    have hd2 : decI .i64 [[.int .i64 0], [.int .i64 0], [.int .i64 1]] = some [0, 0, 1] := rfl
    have hok0 : okAt e [6, 7, 6] [0, 0, 1] := ⟨ha, rfl, by simp, fun i h h2 => by
      match i, h with
      | 0, _ => simp [arK]
      | 1, _ => simp [arK]
      | 2, _ => simp [arK]⟩
    by_cases ce : e.k = 6
    rotate_left
    · have hat0 : aKV e [6, 7, 6] [0, 0, 1] = .tup [enc ex0, .bool false] := by unfold aKV; simp [atK, kd, ce]
      have hv : Hold (fdV 5 e = .tup [.sl (encL []) .no, .int .i64 0, .bool false]) := by unfold Hold fdV fd; simp [atK, kd, ce]
      have hE := ((EnvOk.nil (P := Tryz.prog) (eq := fun _ => false) (own := fun _ => false) (mem := fun _ => false) EqOk.none).addf ok_sAt)
      refine ⟨⟨Tryz.f126, Tryz.func126, by decide, rfl⟩, pure_of_T Tryz.func126 rfl (by simp [Tryz.ntmps126]) fun q => ?_⟩
      repeat' (first | (with_reducible refine T.sq fun K hK => ?_) | ((first | ((with_reducible refine T.reg hE ?hd ?_); (case hd => kernel_rfl)) | ((with_reducible refine T.any hE mixed ?hd ?hok ?_); (case hd => kernel_rfl); (case hok => kernel_rfl))); simp [*]; (repeat' (split; all_goals (rename_i hc; try simp [*])))) | ((with_reducible refine T.ret ?_); refine fin_pure ?_; simp [*]; try (change Hold _)) | (with_reducible refine T.block ?_) | ((with_reducible refine T.skip ?_); simp [*]) | ((with_reducible refine T.exit ?_); simp [*]) | ((with_reducible refine T.br fun K1 K2 hK1 hK2 => ?_); simp [*]; try ((refine Br.intro (fun hc => ?_) (fun hc => ?_)) <;> (try simp at hc))) | (with_reducible refine Cont.go (by assumption) _ ?_) | (with_reducible refine Cnt.go (by assumption) ?_))
      all_goals (unfold Hold at *; rw [hv]; try simp [ex0])
    obtain ⟨p, q, he⟩ := kids_two ha (.inl ce)
    have hap : allX p = true := by have := allX_kids ha; rw [he] at this; exact this p (by simp)
    have haq : allX q = true := by have := allX_kids ha; rw [he] at this; exact this q (by simp)
    by_cases cp : p.k = 7
    rotate_left
    · have hat0 : aKV e [6, 7, 6] [0, 0, 1] = .tup [enc ex0, .bool false] := by unfold aKV; simp [atK, kd, ce, he, cp]
      have hv : Hold (fdV 5 e = .tup [.sl (encL []) .no, .int .i64 0, .bool false]) := by unfold Hold fdV fd; simp [atK, kd, ce, he, cp]
      have eq1 : Ex.mk 6 e.i [p, q] = e := by rw [← ce, ← he, Ex.eta]
      have hE := ((EnvOk.nil (P := Tryz.prog) (eq := fun _ => false) (own := fun _ => false) (mem := fun _ => false) EqOk.none).addf ok_sAt)
      refine ⟨⟨Tryz.f126, Tryz.func126, by decide, rfl⟩, pure_of_T Tryz.func126 rfl (by simp [Tryz.ntmps126]) fun q => ?_⟩
      repeat' (first | (with_reducible refine T.sq fun K hK => ?_) | ((first | ((with_reducible refine T.reg hE ?hd ?_); (case hd => kernel_rfl)) | ((with_reducible refine T.any hE mixed ?hd ?hok ?_); (case hd => kernel_rfl); (case hok => kernel_rfl))); simp [*]; (repeat' (split; all_goals (rename_i hc; try simp [*])))) | ((with_reducible refine T.ret ?_); refine fin_pure ?_; simp [*]; try (change Hold _)) | (with_reducible refine T.block ?_) | ((with_reducible refine T.skip ?_); simp [*]) | ((with_reducible refine T.exit ?_); simp [*]) | ((with_reducible refine T.br fun K1 K2 hK1 hK2 => ?_); simp [*]; try ((refine Br.intro (fun hc => ?_) (fun hc => ?_)) <;> (try simp at hc))) | (with_reducible refine Cont.go (by assumption) _ ?_) | (with_reducible refine Cnt.go (by assumption) ?_))
      all_goals (unfold Hold at *; rw [hv]; try simp [ex0])
    obtain ⟨p0, hp⟩ := kids_one hap (.inr (.inl cp))
    have hap0 : allX p0 = true := by have := allX_kids hap; rw [hp] at this; exact this p0 (by simp)
    by_cases cp0 : p0.k = 6
    rotate_left
    · have hat0 : aKV e [6, 7, 6] [0, 0, 1] = .tup [enc ex0, .bool false] := by unfold aKV; simp [atK, kd, ce, he, cp, hp, cp0]
      have hv : Hold (fdV 5 e = .tup [.sl (encL []) .no, .int .i64 0, .bool false]) := by unfold Hold fdV fd; simp [atK, kd, ce, he, cp, hp, cp0]
      have eq2 : Ex.mk 7 p.i [p0] = p := by rw [← cp, ← hp, Ex.eta]
      have eq1 : Ex.mk 6 e.i [p, q] = e := by rw [← ce, ← he, Ex.eta]
      have hE := ((EnvOk.nil (P := Tryz.prog) (eq := fun _ => false) (own := fun _ => false) (mem := fun _ => false) EqOk.none).addf ok_sAt)
      refine ⟨⟨Tryz.f126, Tryz.func126, by decide, rfl⟩, pure_of_T Tryz.func126 rfl (by simp [Tryz.ntmps126]) fun q => ?_⟩
      repeat' (first | (with_reducible refine T.sq fun K hK => ?_) | ((first | ((with_reducible refine T.reg hE ?hd ?_); (case hd => kernel_rfl)) | ((with_reducible refine T.any hE mixed ?hd ?hok ?_); (case hd => kernel_rfl); (case hok => kernel_rfl))); simp [*]; (repeat' (split; all_goals (rename_i hc; try simp [*])))) | ((with_reducible refine T.ret ?_); refine fin_pure ?_; simp [*]; try (change Hold _)) | (with_reducible refine T.block ?_) | ((with_reducible refine T.skip ?_); simp [*]) | ((with_reducible refine T.exit ?_); simp [*]) | ((with_reducible refine T.br fun K1 K2 hK1 hK2 => ?_); simp [*]; try ((refine Br.intro (fun hc => ?_) (fun hc => ?_)) <;> (try simp at hc))) | (with_reducible refine Cont.go (by assumption) _ ?_) | (with_reducible refine Cnt.go (by assumption) ?_))
      all_goals (unfold Hold at *; rw [hv]; try simp [ex0])
    obtain ⟨a, b, hp0⟩ := kids_two hap0 (.inl cp0)
    have haa : allX a = true := by have := allX_kids hap0; rw [hp0] at this; exact this a (by simp)
    have hab : allX b = true := by have := allX_kids hap0; rw [hp0] at this; exact this b (by simp)
    have hat0 : aKV e [6, 7, 6] [0, 0, 1] = .tup [enc b, .bool true] := by unfold aKV; simp [atK, kd, ce, he, cp, hp, cp0, hp0]
    have hv : Hold (fdV 5 e = .tup [.sl (encL [a, b]) .no, .int .i64 p.i, .bool true]) := by unfold Hold fdV fd; simp [atK, kd, ce, he, cp, hp, cp0, hp0]
    have eq3 : Ex.mk 6 p0.i [a, b] = p0 := by rw [← cp0, ← hp0, Ex.eta]
    have eq2 : Ex.mk 7 p.i [p0] = p := by rw [← cp, ← hp, Ex.eta]
    have eq1 : Ex.mk 6 e.i [p, q] = e := by rw [← ce, ← he, Ex.eta]
    have hE := ((EnvOk.nil (P := Tryz.prog) (eq := fun _ => false) (own := fun _ => false) (mem := fun _ => false) EqOk.none).addf ok_sAt)
    refine ⟨⟨Tryz.f126, Tryz.func126, by decide, rfl⟩, pure_of_T Tryz.func126 rfl (by simp [Tryz.ntmps126]) fun q => ?_⟩
    repeat' (first | (with_reducible refine T.sq fun K hK => ?_) | ((first | ((with_reducible refine T.reg hE ?hd ?_); (case hd => kernel_rfl)) | ((with_reducible refine T.any hE mixed ?hd ?hok ?_); (case hd => kernel_rfl); (case hok => kernel_rfl))); simp [*]; (repeat' (split; all_goals (rename_i hc; try simp [*])))) | ((with_reducible refine T.ret ?_); refine fin_pure ?_; simp [*]; try (change Hold _)) | (with_reducible refine T.block ?_) | ((with_reducible refine T.skip ?_); simp [*]) | ((with_reducible refine T.exit ?_); simp [*]) | ((with_reducible refine T.br fun K1 K2 hK1 hK2 => ?_); simp [*]; try ((refine Br.intro (fun hc => ?_) (fun hc => ?_)) <;> (try simp at hc))) | (with_reducible refine Cont.go (by assumption) _ ?_) | (with_reducible refine Cnt.go (by assumption) ?_))
    all_goals (unfold Hold at *; rw [hv]; try simp [ex0])
  · cases hr
set_option maxHeartbeats 2000000 in
theorem ok_fd6 : PureOk Tryz.prog 129 (gFd 6) := by
  intro args r h
  obtain ⟨e, rfl, hr⟩ := f1_inv h; clear h
  split at hr
  · rename_i hre
    have hre : rightE e = 0 := hre
    cases hr
    have ha := (right_zero hre).2.2
    have hr1 : List.range 1 = [0] := rfl
    have hr2 : List.range 2 = [0, 1] := rfl
    have hr3 : List.range 3 = [0, 1, 2] := rfl
    have hr4 : List.range 4 = [0, 1, 2, 3] := rfl
    have hd1 : decI .i64 [[.int .i64 4]] = some [4] := rfl
    have hd2 : decI .i64 [[.int .i64 0]] = some [0] := rfl
    have hok0 : okAt e [4] [0] := ⟨ha, rfl, by simp, fun i h h2 => by
      match i, h with
      | 0, _ => simp [arK]⟩
    by_cases ce : e.k = 4
    rotate_left
    · have hat0 : aKV e [4] [0] = .tup [enc ex0, .bool false] := by unfold aKV; simp [atK, kd, ce]
      have hv : Hold (fdV 6 e = .tup [.sl (encL [ex0]) .no, .int .i64 0, .bool false]) := by unfold Hold fdV fd; simp [atK, kd, ce]
      have hE := ((EnvOk.nil (P := Tryz.prog) (eq := fun _ => false) (own := fun _ => false) (mem := fun _ => false) EqOk.none).addf ok_sAt)
      refine ⟨⟨Tryz.f129, Tryz.func129, by decide, rfl⟩, pure_of_T Tryz.func129 rfl (by simp [Tryz.ntmps129]) fun q => ?_⟩
      repeat' (first | (with_reducible refine T.sq fun K hK => ?_) | ((first | ((with_reducible refine T.reg hE ?hd ?_); (case hd => kernel_rfl)) | ((with_reducible refine T.any hE mixed ?hd ?hok ?_); (case hd => kernel_rfl); (case hok => kernel_rfl))); simp [*]; (repeat' (split; all_goals (rename_i hc; try simp [*])))) | ((with_reducible refine T.ret ?_); refine fin_pure ?_; simp [*]; try (change Hold _)) | (with_reducible refine T.block ?_) | ((with_reducible refine T.skip ?_); simp [*]) | ((with_reducible refine T.exit ?_); simp [*]) | ((with_reducible refine T.br fun K1 K2 hK1 hK2 => ?_); simp [*]; try ((refine Br.intro (fun hc => ?_) (fun hc => ?_)) <;> (try simp at hc))) | (with_reducible refine Cont.go (by assumption) _ ?_) | (with_reducible refine Cnt.go (by assumption) ?_))
      all_goals (unfold Hold at *; rw [hv]; try simp [ex0])
    obtain ⟨t, u, he⟩ := kids_eqs ha ce
    have hat : allX t = true := by have := allX_kids ha; rw [he] at this; exact this t (by simp)
    have hau : allX u = true := by have := allX_kids ha; rw [he] at this; exact this u (by simp)
    have hat0 : aKV e [4] [0] = .tup [enc t, .bool true] := by unfold aKV; simp [atK, kd, ce, he]
    have hv : Hold (fdV 6 e = .tup [.sl (encL [t]) .no, .int .i64 0, .bool true]) := by unfold Hold fdV fd; simp [atK, kd, ce, he]
    have eq1 : Ex.mk 4 e.i [t, u] = e := by rw [← ce, ← he, Ex.eta]
    have hE := ((EnvOk.nil (P := Tryz.prog) (eq := fun _ => false) (own := fun _ => false) (mem := fun _ => false) EqOk.none).addf ok_sAt)
    refine ⟨⟨Tryz.f129, Tryz.func129, by decide, rfl⟩, pure_of_T Tryz.func129 rfl (by simp [Tryz.ntmps129]) fun q => ?_⟩
    repeat' (first | (with_reducible refine T.sq fun K hK => ?_) | ((first | ((with_reducible refine T.reg hE ?hd ?_); (case hd => kernel_rfl)) | ((with_reducible refine T.any hE mixed ?hd ?hok ?_); (case hd => kernel_rfl); (case hok => kernel_rfl))); simp [*]; (repeat' (split; all_goals (rename_i hc; try simp [*])))) | ((with_reducible refine T.ret ?_); refine fin_pure ?_; simp [*]; try (change Hold _)) | (with_reducible refine T.block ?_) | ((with_reducible refine T.skip ?_); simp [*]) | ((with_reducible refine T.exit ?_); simp [*]) | ((with_reducible refine T.br fun K1 K2 hK1 hK2 => ?_); simp [*]; try ((refine Br.intro (fun hc => ?_) (fun hc => ?_)) <;> (try simp at hc))) | (with_reducible refine Cont.go (by assumption) _ ?_) | (with_reducible refine Cnt.go (by assumption) ?_))
    all_goals (unfold Hold at *; rw [hv]; try simp [ex0])
  · cases hr
set_option maxHeartbeats 2000000 in
theorem ok_fd7 : PureOk Tryz.prog 132 (gFd 7) := by
  intro args r h
  obtain ⟨e, rfl, hr⟩ := f1_inv h; clear h
  split at hr
  · rename_i hre
    have hre : rightE e = 0 := hre
    cases hr
    have ha := (right_zero hre).2.2
    have hr1 : List.range 1 = [0] := rfl
    have hr2 : List.range 2 = [0, 1] := rfl
    have hr3 : List.range 3 = [0, 1, 2] := rfl
    have hr4 : List.range 4 = [0, 1, 2, 3] := rfl
    have hd1 : decI .i64 [[.int .i64 6], [.int .i64 4]] = some [6, 4] := rfl
    have hd2 : decI .i64 [[.int .i64 0], [.int .i64 0]] = some [0, 0] := rfl
    have hd3 : decI .i64 [[.int .i64 6], [.int .i64 6]] = some [6, 6] := rfl
    have hd4 : decI .i64 [[.int .i64 1], [.int .i64 0]] = some [1, 0] := rfl
    have hok0 : okAt e [6, 4] [0, 0] := ⟨ha, rfl, by simp, fun i h h2 => by
      match i, h with
      | 0, _ => simp [arK]
      | 1, _ => simp [arK]⟩
    have hok1 : okAt e [6, 6] [1, 0] := ⟨ha, rfl, by simp, fun i h h2 => by
      match i, h with
      | 0, _ => simp [arK]
      | 1, _ => simp [arK]⟩
    by_cases ce : e.k = 6
    rotate_left
    · have hat0 : aKV e [6, 4] [0, 0] = .tup [enc ex0, .bool false] := by unfold aKV; simp [atK, kd, ce]
      have hat1 : aKV e [6, 6] [1, 0] = .tup [enc ex0, .bool false] := by unfold aKV; simp [atK, kd, ce]
      have hv : Hold (fdV 7 e = .tup [.sl (encL []) .no, .int .i64 0, .bool false]) := by unfold Hold fdV fd; simp [atK, kd, ce]
      have hE := ((EnvOk.nil (P := Tryz.prog) (eq := fun _ => false) (own := fun _ => false) (mem := fun _ => false) EqOk.none).addf ok_sAt)
      refine ⟨⟨Tryz.f132, Tryz.func132, by decide, rfl⟩, pure_of_T Tryz.func132 rfl (by simp [Tryz.ntmps132]) fun q => ?_⟩
      repeat' (first | (with_reducible refine T.sq fun K hK => ?_) | ((first | ((with_reducible refine T.reg hE ?hd ?_); (case hd => kernel_rfl)) | ((with_reducible refine T.any hE mixed ?hd ?hok ?_); (case hd => kernel_rfl); (case hok => kernel_rfl))); simp [*]; (repeat' (split; all_goals (rename_i hc; try simp [*])))) | ((with_reducible refine T.ret ?_); refine fin_pure ?_; simp [*]; try (change Hold _)) | (with_reducible refine T.block ?_) | ((with_reducible refine T.skip ?_); simp [*]) | ((with_reducible refine T.exit ?_); simp [*]) | ((with_reducible refine T.br fun K1 K2 hK1 hK2 => ?_); simp [*]; try ((refine Br.intro (fun hc => ?_) (fun hc => ?_)) <;> (try simp at hc))) | (with_reducible refine Cont.go (by assumption) _ ?_) | (with_reducible refine Cnt.go (by assumption) ?_))
      all_goals (unfold Hold at *; rw [hv]; try simp [ex0])
    obtain ⟨p, q, he⟩ := kids_two ha (.inl ce)
    have hap : allX p = true := by have := allX_kids ha; rw [he] at this; exact this p (by simp)
    have haq : allX q = true := by have := allX_kids ha; rw [he] at this; exact this q (by simp)
    by_cases cp : p.k = 4
    rotate_left
    · have hat0 : aKV e [6, 4] [0, 0] = .tup [enc ex0, .bool false] := by unfold aKV; simp [atK, kd, ce, he, cp]
      have hv : Hold (fdV 7 e = .tup [.sl (encL []) .no, .int .i64 0, .bool false]) := by unfold Hold fdV fd; simp [atK, kd, ce, he, cp]
      by_cases cq : q.k = 6
      · obtain ⟨c, d, hq⟩ := kids_two haq (.inl cq)
        have hat1 : aKV e [6, 6] [1, 0] = .tup [enc c, .bool true] := by unfold aKV; simp [atK, kd, ce, he, cp, cq, hq]
        have eq2 : Ex.mk 6 q.i [c, d] = q := by rw [← cq, ← hq, Ex.eta]
        have eq1 : Ex.mk 6 e.i [p, q] = e := by rw [← ce, ← he, Ex.eta]
        have hE := ((EnvOk.nil (P := Tryz.prog) (eq := fun _ => false) (own := fun _ => false) (mem := fun _ => false) EqOk.none).addf ok_sAt)
        refine ⟨⟨Tryz.f132, Tryz.func132, by decide, rfl⟩, pure_of_T Tryz.func132 rfl (by simp [Tryz.ntmps132]) fun q => ?_⟩
        repeat' (first | (with_reducible refine T.sq fun K hK => ?_) | ((first | ((with_reducible refine T.reg hE ?hd ?_); (case hd => kernel_rfl)) | ((with_reducible refine T.any hE mixed ?hd ?hok ?_); (case hd => kernel_rfl); (case hok => kernel_rfl))); simp [*]; (repeat' (split; all_goals (rename_i hc; try simp [*])))) | ((with_reducible refine T.ret ?_); refine fin_pure ?_; simp [*]; try (change Hold _)) | (with_reducible refine T.block ?_) | ((with_reducible refine T.skip ?_); simp [*]) | ((with_reducible refine T.exit ?_); simp [*]) | ((with_reducible refine T.br fun K1 K2 hK1 hK2 => ?_); simp [*]; try ((refine Br.intro (fun hc => ?_) (fun hc => ?_)) <;> (try simp at hc))) | (with_reducible refine Cont.go (by assumption) _ ?_) | (with_reducible refine Cnt.go (by assumption) ?_))
        all_goals (unfold Hold at *; rw [hv]; try simp [ex0])
      · have hat1 : aKV e [6, 6] [1, 0] = .tup [enc ex0, .bool false] := by unfold aKV; simp [atK, kd, ce, he, cp, cq]
        have eq1 : Ex.mk 6 e.i [p, q] = e := by rw [← ce, ← he, Ex.eta]
        have hE := ((EnvOk.nil (P := Tryz.prog) (eq := fun _ => false) (own := fun _ => false) (mem := fun _ => false) EqOk.none).addf ok_sAt)
        refine ⟨⟨Tryz.f132, Tryz.func132, by decide, rfl⟩, pure_of_T Tryz.func132 rfl (by simp [Tryz.ntmps132]) fun q => ?_⟩
        repeat' (first | (with_reducible refine T.sq fun K hK => ?_) | ((first | ((with_reducible refine T.reg hE ?hd ?_); (case hd => kernel_rfl)) | ((with_reducible refine T.any hE mixed ?hd ?hok ?_); (case hd => kernel_rfl); (case hok => kernel_rfl))); simp [*]; (repeat' (split; all_goals (rename_i hc; try simp [*])))) | ((with_reducible refine T.ret ?_); refine fin_pure ?_; simp [*]; try (change Hold _)) | (with_reducible refine T.block ?_) | ((with_reducible refine T.skip ?_); simp [*]) | ((with_reducible refine T.exit ?_); simp [*]) | ((with_reducible refine T.br fun K1 K2 hK1 hK2 => ?_); simp [*]; try ((refine Br.intro (fun hc => ?_) (fun hc => ?_)) <;> (try simp at hc))) | (with_reducible refine Cont.go (by assumption) _ ?_) | (with_reducible refine Cnt.go (by assumption) ?_))
        all_goals (unfold Hold at *; rw [hv]; try simp [ex0])
    obtain ⟨t, u, hp⟩ := kids_eqs hap cp
    have hat : allX t = true := by have := allX_kids hap; rw [hp] at this; exact this t (by simp)
    have hau : allX u = true := by have := allX_kids hap; rw [hp] at this; exact this u (by simp)
    by_cases cq : q.k = 6
    rotate_left
    · have hat0 : aKV e [6, 4] [0, 0] = .tup [enc t, .bool true] := by unfold aKV; simp [atK, kd, ce, he, cp, hp, cq]
      have hat1 : aKV e [6, 6] [1, 0] = .tup [enc ex0, .bool false] := by unfold aKV; simp [atK, kd, ce, he, cp, hp, cq]
      have hv : Hold (fdV 7 e = .tup [.sl (encL []) .no, .int .i64 0, .bool false]) := by unfold Hold fdV fd; simp [atK, kd, ce, he, cp, hp, cq]
      have eq2 : Ex.mk 4 p.i [t, u] = p := by rw [← cp, ← hp, Ex.eta]
      have eq1 : Ex.mk 6 e.i [p, q] = e := by rw [← ce, ← he, Ex.eta]
      have hE := ((EnvOk.nil (P := Tryz.prog) (eq := fun _ => false) (own := fun _ => false) (mem := fun _ => false) EqOk.none).addf ok_sAt)
      refine ⟨⟨Tryz.f132, Tryz.func132, by decide, rfl⟩, pure_of_T Tryz.func132 rfl (by simp [Tryz.ntmps132]) fun q => ?_⟩
      repeat' (first | (with_reducible refine T.sq fun K hK => ?_) | ((first | ((with_reducible refine T.reg hE ?hd ?_); (case hd => kernel_rfl)) | ((with_reducible refine T.any hE mixed ?hd ?hok ?_); (case hd => kernel_rfl); (case hok => kernel_rfl))); simp [*]; (repeat' (split; all_goals (rename_i hc; try simp [*])))) | ((with_reducible refine T.ret ?_); refine fin_pure ?_; simp [*]; try (change Hold _)) | (with_reducible refine T.block ?_) | ((with_reducible refine T.skip ?_); simp [*]) | ((with_reducible refine T.exit ?_); simp [*]) | ((with_reducible refine T.br fun K1 K2 hK1 hK2 => ?_); simp [*]; try ((refine Br.intro (fun hc => ?_) (fun hc => ?_)) <;> (try simp at hc))) | (with_reducible refine Cont.go (by assumption) _ ?_) | (with_reducible refine Cnt.go (by assumption) ?_))
      all_goals (unfold Hold at *; rw [hv]; try simp [ex0])
    obtain ⟨c, d, hq⟩ := kids_two haq (.inl cq)
    have hac : allX c = true := by have := allX_kids haq; rw [hq] at this; exact this c (by simp)
    have had : allX d = true := by have := allX_kids haq; rw [hq] at this; exact this d (by simp)
    have hat0 : aKV e [6, 4] [0, 0] = .tup [enc t, .bool true] := by unfold aKV; simp [atK, kd, ce, he, cp, hp, cq, hq]
    have hat1 : aKV e [6, 6] [1, 0] = .tup [enc c, .bool true] := by unfold aKV; simp [atK, kd, ce, he, cp, hp, cq, hq]
    have hv : Hold (fdV 7 e = .tup [.sl (encL [t, u, c, d]) .no, .int .i64 0, .bool true]) := by unfold Hold fdV fd; simp [atK, kd, ce, he, cp, hp, cq, hq]
    have eq3 : Ex.mk 6 q.i [c, d] = q := by rw [← cq, ← hq, Ex.eta]
    have eq2 : Ex.mk 4 p.i [t, u] = p := by rw [← cp, ← hp, Ex.eta]
    have eq1 : Ex.mk 6 e.i [p, q] = e := by rw [← ce, ← he, Ex.eta]
    have hE := ((EnvOk.nil (P := Tryz.prog) (eq := fun _ => false) (own := fun _ => false) (mem := fun _ => false) EqOk.none).addf ok_sAt)
    refine ⟨⟨Tryz.f132, Tryz.func132, by decide, rfl⟩, pure_of_T Tryz.func132 rfl (by simp [Tryz.ntmps132]) fun q => ?_⟩
    repeat' (first | (with_reducible refine T.sq fun K hK => ?_) | ((first | ((with_reducible refine T.reg hE ?hd ?_); (case hd => kernel_rfl)) | ((with_reducible refine T.any hE mixed ?hd ?hok ?_); (case hd => kernel_rfl); (case hok => kernel_rfl))); simp [*]; (repeat' (split; all_goals (rename_i hc; try simp [*])))) | ((with_reducible refine T.ret ?_); refine fin_pure ?_; simp [*]; try (change Hold _)) | (with_reducible refine T.block ?_) | ((with_reducible refine T.skip ?_); simp [*]) | ((with_reducible refine T.exit ?_); simp [*]) | ((with_reducible refine T.br fun K1 K2 hK1 hK2 => ?_); simp [*]; try ((refine Br.intro (fun hc => ?_) (fun hc => ?_)) <;> (try simp at hc))) | (with_reducible refine Cont.go (by assumption) _ ?_) | (with_reducible refine Cnt.go (by assumption) ?_))
    all_goals (unfold Hold at *; rw [hv]; try simp [ex0])
  · cases hr
end Go.Proofs.YtibfdebhbibfpaaGreat.Ax
