/- Contracts: Parts, Is, Which, by the program. -/
import Derived.Test.YtibfdebhbibfpaaGreatDxJ
set_option linter.unusedVariables false
set_option linter.unusedSimpArgs false
namespace Go.Proofs.YtibfdebhbibfpaaGreat.Ax
open Go Go.Proofs

def rowK (k : Int) : List V := if k = 1 then rowC 1 ⟨#[102, 102]⟩ false 112 114 else if k = 2 then rowC 2 ⟨#[102, 102, 102]⟩ false 116 117 else if k = 3 then rowC 3 ⟨#[102, 102]⟩ false 118 120 else if k = 4 then rowC 4 ⟨#[102, 116]⟩ true 121 122 else if k = 5 then rowC 5 ⟨#[102, 102]⟩ true 123 126 else if k = 6 then rowC 6 ⟨#[116]⟩ false 127 129 else rowC 7 ⟨#[116, 116, 102, 102]⟩ false 130 132
def ptV (k : Int) (e : Ex) : V := match fd k e with
  | none => .tup [.sl [] .no, .int .i64 0, .bool false]
  | some p => .tup [.sl (encL p.1) .no, .int .i64 p.2, .bool (goodP k e p)]
def okPt (k : Int) (s : ByteArray) (b : Bool) (mk fdv : FuncId) (e : Ex) : Prop := okK k ∧ rightE e = 0 ∧ rowK k = [.int .i64 k, .str s, .bool b, .fn mk [], .fn fdv []]
noncomputable instance (k : Int) (s : ByteArray) (b : Bool) (mk fdv : FuncId) (e : Ex) : Decidable (okPt k s b mk fdv e) := Classical.propDecidable _
@[simp] noncomputable def gParts : List V → Option V := fun args => match args with
  | [.agg [.int .i64 k, .str s, .bool b, .fn mk [], .fn fdv []], ev] => (dec ev).bind fun e => if okPt k s b mk fdv e then some (ptV k e) else none
  | _ => none
theorem mk_inst {k : Int} {l : List Ex} {x : Int} (h : mkErr k l x = 0) : rightE (instE k l x) = 0 := by
  unfold mkErr at h
  split at h
  · split at h
    · split at h
      · rename_i c; exact absurd h c
      · split at h
        · exact h
        · cases h
    · cases h
  · cases h
theorem mk_ok {k : Int} {l : List Ex} {x : Int} (h : mkErr k l x = 0) : okK k ∧ Prt k l x ∧ sortE l (srtS k) = 0 := by
  unfold mkErr at h
  split at h
  · rename_i hk
    split at h
    · rename_i hp
      split at h
      · rename_i c; exact absurd h c
      · rename_i c; exact ⟨hk, (prt_iff _ _ _).1 hp, by simpa using c⟩
    · cases h
  · cases h
set_option maxHeartbeats 1000000 in
theorem ok_pt1 {e : Ex} (hre : rightE e = 0) : Okat Tryz.prog 53 [.agg [.int .i64 1, .str ⟨#[102, 102]⟩, .bool false, .fn 112 [], .fn 114 []], enc e] (ptV 1 e) := by
  have hof : okFd e := hre
  have hE := ((((EnvOk.nil (P := Tryz.prog) (eq := fun _ => false) (own := fun _ => false) (mem := fun _ => false) EqOk.none).addf ok_fd1).addf ok_sMake).addf ok_Same)
  refine ⟨⟨Tryz.f53, Tryz.func53, by decide, rfl⟩, pure_of_T Tryz.func53 rfl (by simp [Tryz.ntmps53]) fun q => ?_⟩
  cases hf : fd 1 e with
  | none =>
    have hfv : fdV 1 e = .tup [.sl (encL []) .no, .int .i64 0, .bool false] := by unfold fdV; rw [hf]; rfl
    have hv : Hold (ptV 1 e = .tup [.sl [] .no, .int .i64 0, .bool false]) := by unfold Hold ptV; rw [hf]
    clear hf
    repeat' (first | (with_reducible refine T.sq fun K hK => ?_) | ((first | ((with_reducible refine T.reg hE ?hd ?_); (case hd => kernel_rfl)) | ((with_reducible refine T.any hE mixed ?hd ?hok ?_); (case hd => kernel_rfl); (case hok => kernel_rfl))); simp [*]; (repeat' (split; all_goals (rename_i hc; try simp [*])))) | ((with_reducible refine T.ret ?_); refine fin_pure ?_; simp [*]; try (change Hold _)) | (with_reducible refine T.block ?_) | ((with_reducible refine T.skip ?_); simp [*]) | ((with_reducible refine T.exit ?_); simp [*]) | ((with_reducible refine T.br fun K1 K2 hK1 hK2 => ?_); simp [*]; try ((refine Br.intro (fun hc => ?_) (fun hc => ?_)) <;> (try simp at hc))) | (with_reducible refine Cont.go (by assumption) _ ?_) | (with_reducible refine Cnt.go (by assumption) ?_))
    all_goals (unfold Hold at *; rw [hv])
  | some p =>
    obtain ⟨l, x⟩ := p
    have hfv : fdV 1 e = .tup [.sl (encL l) .no, .int .i64 x, .bool true] := by unfold fdV; rw [hf]
    have hv : Hold (ptV 1 e = .tup [.sl (encL l) .no, .int .i64 x, .bool (goodP 1 e (l, x))]) := by unfold Hold ptV; rw [hf]
    clear hf
    by_cases m : mkErr 1 l x = 0
    · have hm := mkRes_good m
      have hri : rightE (instE 1 l x) = 0 := mk_inst m
      have hg : goodP 1 e (l, x) = decide (ordE (instE 1 l x) e = 0) := by unfold goodP; rw [decide_eq_true m]; rfl
      rw [hg] at hv
      clear hg m
      generalize instE 1 l x = I at *
      repeat' (first | (with_reducible refine T.sq fun K hK => ?_) | ((first | ((with_reducible refine T.reg hE ?hd ?_); (case hd => kernel_rfl)) | ((with_reducible refine T.any hE mixed ?hd ?hok ?_); (case hd => kernel_rfl); (case hok => kernel_rfl))); simp [*]; (repeat' (split; all_goals (rename_i hc; try simp [*])))) | ((with_reducible refine T.ret ?_); refine fin_pure ?_; simp [*]; try (change Hold _)) | (with_reducible refine T.block ?_) | ((with_reducible refine T.skip ?_); simp [*]) | ((with_reducible refine T.exit ?_); simp [*]) | ((with_reducible refine T.br fun K1 K2 hK1 hK2 => ?_); simp [*]; try ((refine Br.intro (fun hc => ?_) (fun hc => ?_)) <;> (try simp at hc))) | (with_reducible refine Cont.go (by assumption) _ ?_) | (with_reducible refine Cnt.go (by assumption) ?_))
      all_goals (unfold Hold at *; rw [hv]; try simp)
    · have hm := mkRes_bad rfl m
      have hg : goodP 1 e (l, x) = false := by unfold goodP; rw [decide_eq_false m]; rfl
      rw [hg] at hv
      clear hg
      repeat' (first | (with_reducible refine T.sq fun K hK => ?_) | ((first | ((with_reducible refine T.reg hE ?hd ?_); (case hd => kernel_rfl)) | ((with_reducible refine T.any hE mixed ?hd ?hok ?_); (case hd => kernel_rfl); (case hok => kernel_rfl))); simp [*]; (repeat' (split; all_goals (rename_i hc; try simp [*])))) | ((with_reducible refine T.ret ?_); refine fin_pure ?_; simp [*]; try (change Hold _)) | (with_reducible refine T.block ?_) | ((with_reducible refine T.skip ?_); simp [*]) | ((with_reducible refine T.exit ?_); simp [*]) | ((with_reducible refine T.br fun K1 K2 hK1 hK2 => ?_); simp [*]; try ((refine Br.intro (fun hc => ?_) (fun hc => ?_)) <;> (try simp at hc))) | (with_reducible refine Cont.go (by assumption) _ ?_) | (with_reducible refine Cnt.go (by assumption) ?_))
      all_goals (unfold Hold at *; rw [hv]; try simp)
set_option maxHeartbeats 1000000 in
theorem ok_pt2 {e : Ex} (hre : rightE e = 0) : Okat Tryz.prog 53 [.agg [.int .i64 2, .str ⟨#[102, 102, 102]⟩, .bool false, .fn 116 [], .fn 117 []], enc e] (ptV 2 e) := by
  have hof : okFd e := hre
  have hE := ((((EnvOk.nil (P := Tryz.prog) (eq := fun _ => false) (own := fun _ => false) (mem := fun _ => false) EqOk.none).addf ok_fd2).addf ok_sMake).addf ok_Same)
  refine ⟨⟨Tryz.f53, Tryz.func53, by decide, rfl⟩, pure_of_T Tryz.func53 rfl (by simp [Tryz.ntmps53]) fun q => ?_⟩
  cases hf : fd 2 e with
  | none =>
    have hfv : fdV 2 e = .tup [.sl (encL []) .no, .int .i64 0, .bool false] := by unfold fdV; rw [hf]; rfl
    have hv : Hold (ptV 2 e = .tup [.sl [] .no, .int .i64 0, .bool false]) := by unfold Hold ptV; rw [hf]
    clear hf
    repeat' (first | (with_reducible refine T.sq fun K hK => ?_) | ((first | ((with_reducible refine T.reg hE ?hd ?_); (case hd => kernel_rfl)) | ((with_reducible refine T.any hE mixed ?hd ?hok ?_); (case hd => kernel_rfl); (case hok => kernel_rfl))); simp [*]; (repeat' (split; all_goals (rename_i hc; try simp [*])))) | ((with_reducible refine T.ret ?_); refine fin_pure ?_; simp [*]; try (change Hold _)) | (with_reducible refine T.block ?_) | ((with_reducible refine T.skip ?_); simp [*]) | ((with_reducible refine T.exit ?_); simp [*]) | ((with_reducible refine T.br fun K1 K2 hK1 hK2 => ?_); simp [*]; try ((refine Br.intro (fun hc => ?_) (fun hc => ?_)) <;> (try simp at hc))) | (with_reducible refine Cont.go (by assumption) _ ?_) | (with_reducible refine Cnt.go (by assumption) ?_))
    all_goals (unfold Hold at *; rw [hv])
  | some p =>
    obtain ⟨l, x⟩ := p
    have hfv : fdV 2 e = .tup [.sl (encL l) .no, .int .i64 x, .bool true] := by unfold fdV; rw [hf]
    have hv : Hold (ptV 2 e = .tup [.sl (encL l) .no, .int .i64 x, .bool (goodP 2 e (l, x))]) := by unfold Hold ptV; rw [hf]
    clear hf
    by_cases m : mkErr 2 l x = 0
    · have hm := mkRes_good m
      have hri : rightE (instE 2 l x) = 0 := mk_inst m
      have hg : goodP 2 e (l, x) = decide (ordE (instE 2 l x) e = 0) := by unfold goodP; rw [decide_eq_true m]; rfl
      rw [hg] at hv
      clear hg m
      generalize instE 2 l x = I at *
      repeat' (first | (with_reducible refine T.sq fun K hK => ?_) | ((first | ((with_reducible refine T.reg hE ?hd ?_); (case hd => kernel_rfl)) | ((with_reducible refine T.any hE mixed ?hd ?hok ?_); (case hd => kernel_rfl); (case hok => kernel_rfl))); simp [*]; (repeat' (split; all_goals (rename_i hc; try simp [*])))) | ((with_reducible refine T.ret ?_); refine fin_pure ?_; simp [*]; try (change Hold _)) | (with_reducible refine T.block ?_) | ((with_reducible refine T.skip ?_); simp [*]) | ((with_reducible refine T.exit ?_); simp [*]) | ((with_reducible refine T.br fun K1 K2 hK1 hK2 => ?_); simp [*]; try ((refine Br.intro (fun hc => ?_) (fun hc => ?_)) <;> (try simp at hc))) | (with_reducible refine Cont.go (by assumption) _ ?_) | (with_reducible refine Cnt.go (by assumption) ?_))
      all_goals (unfold Hold at *; rw [hv]; try simp)
    · have hm := mkRes_bad rfl m
      have hg : goodP 2 e (l, x) = false := by unfold goodP; rw [decide_eq_false m]; rfl
      rw [hg] at hv
      clear hg
      repeat' (first | (with_reducible refine T.sq fun K hK => ?_) | ((first | ((with_reducible refine T.reg hE ?hd ?_); (case hd => kernel_rfl)) | ((with_reducible refine T.any hE mixed ?hd ?hok ?_); (case hd => kernel_rfl); (case hok => kernel_rfl))); simp [*]; (repeat' (split; all_goals (rename_i hc; try simp [*])))) | ((with_reducible refine T.ret ?_); refine fin_pure ?_; simp [*]; try (change Hold _)) | (with_reducible refine T.block ?_) | ((with_reducible refine T.skip ?_); simp [*]) | ((with_reducible refine T.exit ?_); simp [*]) | ((with_reducible refine T.br fun K1 K2 hK1 hK2 => ?_); simp [*]; try ((refine Br.intro (fun hc => ?_) (fun hc => ?_)) <;> (try simp at hc))) | (with_reducible refine Cont.go (by assumption) _ ?_) | (with_reducible refine Cnt.go (by assumption) ?_))
      all_goals (unfold Hold at *; rw [hv]; try simp)
set_option maxHeartbeats 1000000 in
theorem ok_pt3 {e : Ex} (hre : rightE e = 0) : Okat Tryz.prog 53 [.agg [.int .i64 3, .str ⟨#[102, 102]⟩, .bool false, .fn 118 [], .fn 120 []], enc e] (ptV 3 e) := by
  have hof : okFd e := hre
  have hE := ((((EnvOk.nil (P := Tryz.prog) (eq := fun _ => false) (own := fun _ => false) (mem := fun _ => false) EqOk.none).addf ok_fd3).addf ok_sMake).addf ok_Same)
  refine ⟨⟨Tryz.f53, Tryz.func53, by decide, rfl⟩, pure_of_T Tryz.func53 rfl (by simp [Tryz.ntmps53]) fun q => ?_⟩
  cases hf : fd 3 e with
  | none =>
    have hfv : fdV 3 e = .tup [.sl (encL []) .no, .int .i64 0, .bool false] := by unfold fdV; rw [hf]; rfl
    have hv : Hold (ptV 3 e = .tup [.sl [] .no, .int .i64 0, .bool false]) := by unfold Hold ptV; rw [hf]
    clear hf
    repeat' (first | (with_reducible refine T.sq fun K hK => ?_) | ((first | ((with_reducible refine T.reg hE ?hd ?_); (case hd => kernel_rfl)) | ((with_reducible refine T.any hE mixed ?hd ?hok ?_); (case hd => kernel_rfl); (case hok => kernel_rfl))); simp [*]; (repeat' (split; all_goals (rename_i hc; try simp [*])))) | ((with_reducible refine T.ret ?_); refine fin_pure ?_; simp [*]; try (change Hold _)) | (with_reducible refine T.block ?_) | ((with_reducible refine T.skip ?_); simp [*]) | ((with_reducible refine T.exit ?_); simp [*]) | ((with_reducible refine T.br fun K1 K2 hK1 hK2 => ?_); simp [*]; try ((refine Br.intro (fun hc => ?_) (fun hc => ?_)) <;> (try simp at hc))) | (with_reducible refine Cont.go (by assumption) _ ?_) | (with_reducible refine Cnt.go (by assumption) ?_))
    all_goals (unfold Hold at *; rw [hv])
  | some p =>
    obtain ⟨l, x⟩ := p
    have hfv : fdV 3 e = .tup [.sl (encL l) .no, .int .i64 x, .bool true] := by unfold fdV; rw [hf]
    have hv : Hold (ptV 3 e = .tup [.sl (encL l) .no, .int .i64 x, .bool (goodP 3 e (l, x))]) := by unfold Hold ptV; rw [hf]
    clear hf
    by_cases m : mkErr 3 l x = 0
    · have hm := mkRes_good m
      have hri : rightE (instE 3 l x) = 0 := mk_inst m
      have hg : goodP 3 e (l, x) = decide (ordE (instE 3 l x) e = 0) := by unfold goodP; rw [decide_eq_true m]; rfl
      rw [hg] at hv
      clear hg m
      generalize instE 3 l x = I at *
      repeat' (first | (with_reducible refine T.sq fun K hK => ?_) | ((first | ((with_reducible refine T.reg hE ?hd ?_); (case hd => kernel_rfl)) | ((with_reducible refine T.any hE mixed ?hd ?hok ?_); (case hd => kernel_rfl); (case hok => kernel_rfl))); simp [*]; (repeat' (split; all_goals (rename_i hc; try simp [*])))) | ((with_reducible refine T.ret ?_); refine fin_pure ?_; simp [*]; try (change Hold _)) | (with_reducible refine T.block ?_) | ((with_reducible refine T.skip ?_); simp [*]) | ((with_reducible refine T.exit ?_); simp [*]) | ((with_reducible refine T.br fun K1 K2 hK1 hK2 => ?_); simp [*]; try ((refine Br.intro (fun hc => ?_) (fun hc => ?_)) <;> (try simp at hc))) | (with_reducible refine Cont.go (by assumption) _ ?_) | (with_reducible refine Cnt.go (by assumption) ?_))
      all_goals (unfold Hold at *; rw [hv]; try simp)
    · have hm := mkRes_bad rfl m
      have hg : goodP 3 e (l, x) = false := by unfold goodP; rw [decide_eq_false m]; rfl
      rw [hg] at hv
      clear hg
      repeat' (first | (with_reducible refine T.sq fun K hK => ?_) | ((first | ((with_reducible refine T.reg hE ?hd ?_); (case hd => kernel_rfl)) | ((with_reducible refine T.any hE mixed ?hd ?hok ?_); (case hd => kernel_rfl); (case hok => kernel_rfl))); simp [*]; (repeat' (split; all_goals (rename_i hc; try simp [*])))) | ((with_reducible refine T.ret ?_); refine fin_pure ?_; simp [*]; try (change Hold _)) | (with_reducible refine T.block ?_) | ((with_reducible refine T.skip ?_); simp [*]) | ((with_reducible refine T.exit ?_); simp [*]) | ((with_reducible refine T.br fun K1 K2 hK1 hK2 => ?_); simp [*]; try ((refine Br.intro (fun hc => ?_) (fun hc => ?_)) <;> (try simp at hc))) | (with_reducible refine Cont.go (by assumption) _ ?_) | (with_reducible refine Cnt.go (by assumption) ?_))
      all_goals (unfold Hold at *; rw [hv]; try simp)
set_option maxHeartbeats 1000000 in
theorem ok_pt4 {e : Ex} (hre : rightE e = 0) : Okat Tryz.prog 53 [.agg [.int .i64 4, .str ⟨#[102, 116]⟩, .bool true, .fn 121 [], .fn 122 []], enc e] (ptV 4 e) := by
  have hof : okFd e := hre
  have hE := ((((EnvOk.nil (P := Tryz.prog) (eq := fun _ => false) (own := fun _ => false) (mem := fun _ => false) EqOk.none).addf ok_fd4).addf ok_sMake).addf ok_Same)
  refine ⟨⟨Tryz.f53, Tryz.func53, by decide, rfl⟩, pure_of_T Tryz.func53 rfl (by simp [Tryz.ntmps53]) fun q => ?_⟩
  cases hf : fd 4 e with
  | none =>
    have hfv : fdV 4 e = .tup [.sl (encL []) .no, .int .i64 0, .bool false] := by unfold fdV; rw [hf]; rfl
    have hv : Hold (ptV 4 e = .tup [.sl [] .no, .int .i64 0, .bool false]) := by unfold Hold ptV; rw [hf]
    clear hf
    repeat' (first | (with_reducible refine T.sq fun K hK => ?_) | ((first | ((with_reducible refine T.reg hE ?hd ?_); (case hd => kernel_rfl)) | ((with_reducible refine T.any hE mixed ?hd ?hok ?_); (case hd => kernel_rfl); (case hok => kernel_rfl))); simp [*]; (repeat' (split; all_goals (rename_i hc; try simp [*])))) | ((with_reducible refine T.ret ?_); refine fin_pure ?_; simp [*]; try (change Hold _)) | (with_reducible refine T.block ?_) | ((with_reducible refine T.skip ?_); simp [*]) | ((with_reducible refine T.exit ?_); simp [*]) | ((with_reducible refine T.br fun K1 K2 hK1 hK2 => ?_); simp [*]; try ((refine Br.intro (fun hc => ?_) (fun hc => ?_)) <;> (try simp at hc))) | (with_reducible refine Cont.go (by assumption) _ ?_) | (with_reducible refine Cnt.go (by assumption) ?_))
    all_goals (unfold Hold at *; rw [hv])
  | some p =>
    obtain ⟨l, x⟩ := p
    have hfv : fdV 4 e = .tup [.sl (encL l) .no, .int .i64 x, .bool true] := by unfold fdV; rw [hf]
    have hv : Hold (ptV 4 e = .tup [.sl (encL l) .no, .int .i64 x, .bool (goodP 4 e (l, x))]) := by unfold Hold ptV; rw [hf]
    clear hf
    by_cases m : mkErr 4 l x = 0
    · have hm := mkRes_good m
      have hri : rightE (instE 4 l x) = 0 := mk_inst m
      have hg : goodP 4 e (l, x) = decide (ordE (instE 4 l x) e = 0) := by unfold goodP; rw [decide_eq_true m]; rfl
      rw [hg] at hv
      clear hg m
      generalize instE 4 l x = I at *
      repeat' (first | (with_reducible refine T.sq fun K hK => ?_) | ((first | ((with_reducible refine T.reg hE ?hd ?_); (case hd => kernel_rfl)) | ((with_reducible refine T.any hE mixed ?hd ?hok ?_); (case hd => kernel_rfl); (case hok => kernel_rfl))); simp [*]; (repeat' (split; all_goals (rename_i hc; try simp [*])))) | ((with_reducible refine T.ret ?_); refine fin_pure ?_; simp [*]; try (change Hold _)) | (with_reducible refine T.block ?_) | ((with_reducible refine T.skip ?_); simp [*]) | ((with_reducible refine T.exit ?_); simp [*]) | ((with_reducible refine T.br fun K1 K2 hK1 hK2 => ?_); simp [*]; try ((refine Br.intro (fun hc => ?_) (fun hc => ?_)) <;> (try simp at hc))) | (with_reducible refine Cont.go (by assumption) _ ?_) | (with_reducible refine Cnt.go (by assumption) ?_))
      all_goals (unfold Hold at *; rw [hv]; try simp)
    · have hm := mkRes_bad rfl m
      have hg : goodP 4 e (l, x) = false := by unfold goodP; rw [decide_eq_false m]; rfl
      rw [hg] at hv
      clear hg
      repeat' (first | (with_reducible refine T.sq fun K hK => ?_) | ((first | ((with_reducible refine T.reg hE ?hd ?_); (case hd => kernel_rfl)) | ((with_reducible refine T.any hE mixed ?hd ?hok ?_); (case hd => kernel_rfl); (case hok => kernel_rfl))); simp [*]; (repeat' (split; all_goals (rename_i hc; try simp [*])))) | ((with_reducible refine T.ret ?_); refine fin_pure ?_; simp [*]; try (change Hold _)) | (with_reducible refine T.block ?_) | ((with_reducible refine T.skip ?_); simp [*]) | ((with_reducible refine T.exit ?_); simp [*]) | ((with_reducible refine T.br fun K1 K2 hK1 hK2 => ?_); simp [*]; try ((refine Br.intro (fun hc => ?_) (fun hc => ?_)) <;> (try simp at hc))) | (with_reducible refine Cont.go (by assumption) _ ?_) | (with_reducible refine Cnt.go (by assumption) ?_))
      all_goals (unfold Hold at *; rw [hv]; try simp)
set_option maxHeartbeats 1000000 in
theorem ok_pt5 {e : Ex} (hre : rightE e = 0) : Okat Tryz.prog 53 [.agg [.int .i64 5, .str ⟨#[102, 102]⟩, .bool true, .fn 123 [], .fn 126 []], enc e] (ptV 5 e) := by
  have hof : okFd e := hre
  have hE := ((((EnvOk.nil (P := Tryz.prog) (eq := fun _ => false) (own := fun _ => false) (mem := fun _ => false) EqOk.none).addf ok_fd5).addf ok_sMake).addf ok_Same)
  refine ⟨⟨Tryz.f53, Tryz.func53, by decide, rfl⟩, pure_of_T Tryz.func53 rfl (by simp [Tryz.ntmps53]) fun q => ?_⟩
  cases hf : fd 5 e with
  | none =>
    have hfv : fdV 5 e = .tup [.sl (encL []) .no, .int .i64 0, .bool false] := by unfold fdV; rw [hf]; rfl
    have hv : Hold (ptV 5 e = .tup [.sl [] .no, .int .i64 0, .bool false]) := by unfold Hold ptV; rw [hf]
    clear hf
    repeat' (first | (with_reducible refine T.sq fun K hK => ?_) | ((first | ((with_reducible refine T.reg hE ?hd ?_); (case hd => kernel_rfl)) | ((with_reducible refine T.any hE mixed ?hd ?hok ?_); (case hd => kernel_rfl); (case hok => kernel_rfl))); simp [*]; (repeat' (split; all_goals (rename_i hc; try simp [*])))) | ((with_reducible refine T.ret ?_); refine fin_pure ?_; simp [*]; try (change Hold _)) | (with_reducible refine T.block ?_) | ((with_reducible refine T.skip ?_); simp [*]) | ((with_reducible refine T.exit ?_); simp [*]) | ((with_reducible refine T.br fun K1 K2 hK1 hK2 => ?_); simp [*]; try ((refine Br.intro (fun hc => ?_) (fun hc => ?_)) <;> (try simp at hc))) | (with_reducible refine Cont.go (by assumption) _ ?_) | (with_reducible refine Cnt.go (by assumption) ?_))
    all_goals (unfold Hold at *; rw [hv])
  | some p =>
    obtain ⟨l, x⟩ := p
    have hfv : fdV 5 e = .tup [.sl (encL l) .no, .int .i64 x, .bool true] := by unfold fdV; rw [hf]
    have hv : Hold (ptV 5 e = .tup [.sl (encL l) .no, .int .i64 x, .bool (goodP 5 e (l, x))]) := by unfold Hold ptV; rw [hf]
    clear hf
    by_cases m : mkErr 5 l x = 0
    · have hm := mkRes_good m
      have hri : rightE (instE 5 l x) = 0 := mk_inst m
      have hg : goodP 5 e (l, x) = decide (ordE (instE 5 l x) e = 0) := by unfold goodP; rw [decide_eq_true m]; rfl
      rw [hg] at hv
      clear hg m
      generalize instE 5 l x = I at *
      repeat' (first | (with_reducible refine T.sq fun K hK => ?_) | ((first | ((with_reducible refine T.reg hE ?hd ?_); (case hd => kernel_rfl)) | ((with_reducible refine T.any hE mixed ?hd ?hok ?_); (case hd => kernel_rfl); (case hok => kernel_rfl))); simp [*]; (repeat' (split; all_goals (rename_i hc; try simp [*])))) | ((with_reducible refine T.ret ?_); refine fin_pure ?_; simp [*]; try (change Hold _)) | (with_reducible refine T.block ?_) | ((with_reducible refine T.skip ?_); simp [*]) | ((with_reducible refine T.exit ?_); simp [*]) | ((with_reducible refine T.br fun K1 K2 hK1 hK2 => ?_); simp [*]; try ((refine Br.intro (fun hc => ?_) (fun hc => ?_)) <;> (try simp at hc))) | (with_reducible refine Cont.go (by assumption) _ ?_) | (with_reducible refine Cnt.go (by assumption) ?_))
      all_goals (unfold Hold at *; rw [hv]; try simp)
    · have hm := mkRes_bad rfl m
      have hg : goodP 5 e (l, x) = false := by unfold goodP; rw [decide_eq_false m]; rfl
      rw [hg] at hv
      clear hg
      repeat' (first | (with_reducible refine T.sq fun K hK => ?_) | ((first | ((with_reducible refine T.reg hE ?hd ?_); (case hd => kernel_rfl)) | ((with_reducible refine T.any hE mixed ?hd ?hok ?_); (case hd => kernel_rfl); (case hok => kernel_rfl))); simp [*]; (repeat' (split; all_goals (rename_i hc; try simp [*])))) | ((with_reducible refine T.ret ?_); refine fin_pure ?_; simp [*]; try (change Hold _)) | (with_reducible refine T.block ?_) | ((with_reducible refine T.skip ?_); simp [*]) | ((with_reducible refine T.exit ?_); simp [*]) | ((with_reducible refine T.br fun K1 K2 hK1 hK2 => ?_); simp [*]; try ((refine Br.intro (fun hc => ?_) (fun hc => ?_)) <;> (try simp at hc))) | (with_reducible refine Cont.go (by assumption) _ ?_) | (with_reducible refine Cnt.go (by assumption) ?_))
      all_goals (unfold Hold at *; rw [hv]; try simp)
set_option maxHeartbeats 1000000 in
theorem ok_pt6 {e : Ex} (hre : rightE e = 0) : Okat Tryz.prog 53 [.agg [.int .i64 6, .str ⟨#[116]⟩, .bool false, .fn 127 [], .fn 129 []], enc e] (ptV 6 e) := by
  have hof : okFd e := hre
  have hE := ((((EnvOk.nil (P := Tryz.prog) (eq := fun _ => false) (own := fun _ => false) (mem := fun _ => false) EqOk.none).addf ok_fd6).addf ok_sMake).addf ok_Same)
  refine ⟨⟨Tryz.f53, Tryz.func53, by decide, rfl⟩, pure_of_T Tryz.func53 rfl (by simp [Tryz.ntmps53]) fun q => ?_⟩
  cases hf : fd 6 e with
  | none =>
    have hfv : fdV 6 e = .tup [.sl (encL [ex0]) .no, .int .i64 0, .bool false] := by unfold fdV; rw [hf]; rfl
    have hv : Hold (ptV 6 e = .tup [.sl [] .no, .int .i64 0, .bool false]) := by unfold Hold ptV; rw [hf]
    clear hf
    repeat' (first | (with_reducible refine T.sq fun K hK => ?_) | ((first | ((with_reducible refine T.reg hE ?hd ?_); (case hd => kernel_rfl)) | ((with_reducible refine T.any hE mixed ?hd ?hok ?_); (case hd => kernel_rfl); (case hok => kernel_rfl))); simp [*]; (repeat' (split; all_goals (rename_i hc; try simp [*])))) | ((with_reducible refine T.ret ?_); refine fin_pure ?_; simp [*]; try (change Hold _)) | (with_reducible refine T.block ?_) | ((with_reducible refine T.skip ?_); simp [*]) | ((with_reducible refine T.exit ?_); simp [*]) | ((with_reducible refine T.br fun K1 K2 hK1 hK2 => ?_); simp [*]; try ((refine Br.intro (fun hc => ?_) (fun hc => ?_)) <;> (try simp at hc))) | (with_reducible refine Cont.go (by assumption) _ ?_) | (with_reducible refine Cnt.go (by assumption) ?_))
    all_goals (unfold Hold at *; rw [hv])
  | some p =>
    obtain ⟨l, x⟩ := p
    have hfv : fdV 6 e = .tup [.sl (encL l) .no, .int .i64 x, .bool true] := by unfold fdV; rw [hf]
    have hv : Hold (ptV 6 e = .tup [.sl (encL l) .no, .int .i64 x, .bool (goodP 6 e (l, x))]) := by unfold Hold ptV; rw [hf]
    clear hf
    by_cases m : mkErr 6 l x = 0
    · have hm := mkRes_good m
      have hri : rightE (instE 6 l x) = 0 := mk_inst m
      have hg : goodP 6 e (l, x) = decide (ordE (instE 6 l x) e = 0) := by unfold goodP; rw [decide_eq_true m]; rfl
      rw [hg] at hv
      clear hg m
      generalize instE 6 l x = I at *
      repeat' (first | (with_reducible refine T.sq fun K hK => ?_) | ((first | ((with_reducible refine T.reg hE ?hd ?_); (case hd => kernel_rfl)) | ((with_reducible refine T.any hE mixed ?hd ?hok ?_); (case hd => kernel_rfl); (case hok => kernel_rfl))); simp [*]; (repeat' (split; all_goals (rename_i hc; try simp [*])))) | ((with_reducible refine T.ret ?_); refine fin_pure ?_; simp [*]; try (change Hold _)) | (with_reducible refine T.block ?_) | ((with_reducible refine T.skip ?_); simp [*]) | ((with_reducible refine T.exit ?_); simp [*]) | ((with_reducible refine T.br fun K1 K2 hK1 hK2 => ?_); simp [*]; try ((refine Br.intro (fun hc => ?_) (fun hc => ?_)) <;> (try simp at hc))) | (with_reducible refine Cont.go (by assumption) _ ?_) | (with_reducible refine Cnt.go (by assumption) ?_))
      all_goals (unfold Hold at *; rw [hv]; try simp)
    · have hm := mkRes_bad rfl m
      have hg : goodP 6 e (l, x) = false := by unfold goodP; rw [decide_eq_false m]; rfl
      rw [hg] at hv
      clear hg
      repeat' (first | (with_reducible refine T.sq fun K hK => ?_) | ((first | ((with_reducible refine T.reg hE ?hd ?_); (case hd => kernel_rfl)) | ((with_reducible refine T.any hE mixed ?hd ?hok ?_); (case hd => kernel_rfl); (case hok => kernel_rfl))); simp [*]; (repeat' (split; all_goals (rename_i hc; try simp [*])))) | ((with_reducible refine T.ret ?_); refine fin_pure ?_; simp [*]; try (change Hold _)) | (with_reducible refine T.block ?_) | ((with_reducible refine T.skip ?_); simp [*]) | ((with_reducible refine T.exit ?_); simp [*]) | ((with_reducible refine T.br fun K1 K2 hK1 hK2 => ?_); simp [*]; try ((refine Br.intro (fun hc => ?_) (fun hc => ?_)) <;> (try simp at hc))) | (with_reducible refine Cont.go (by assumption) _ ?_) | (with_reducible refine Cnt.go (by assumption) ?_))
      all_goals (unfold Hold at *; rw [hv]; try simp)
set_option maxHeartbeats 1000000 in
theorem ok_pt7 {e : Ex} (hre : rightE e = 0) : Okat Tryz.prog 53 [.agg [.int .i64 7, .str ⟨#[116, 116, 102, 102]⟩, .bool false, .fn 130 [], .fn 132 []], enc e] (ptV 7 e) := by
  have hof : okFd e := hre
  have hE := ((((EnvOk.nil (P := Tryz.prog) (eq := fun _ => false) (own := fun _ => false) (mem := fun _ => false) EqOk.none).addf ok_fd7).addf ok_sMake).addf ok_Same)
  refine ⟨⟨Tryz.f53, Tryz.func53, by decide, rfl⟩, pure_of_T Tryz.func53 rfl (by simp [Tryz.ntmps53]) fun q => ?_⟩
  cases hf : fd 7 e with
  | none =>
    have hfv : fdV 7 e = .tup [.sl (encL []) .no, .int .i64 0, .bool false] := by unfold fdV; rw [hf]; rfl
    have hv : Hold (ptV 7 e = .tup [.sl [] .no, .int .i64 0, .bool false]) := by unfold Hold ptV; rw [hf]
    clear hf
    repeat' (first | (with_reducible refine T.sq fun K hK => ?_) | ((first | ((with_reducible refine T.reg hE ?hd ?_); (case hd => kernel_rfl)) | ((with_reducible refine T.any hE mixed ?hd ?hok ?_); (case hd => kernel_rfl); (case hok => kernel_rfl))); simp [*]; (repeat' (split; all_goals (rename_i hc; try simp [*])))) | ((with_reducible refine T.ret ?_); refine fin_pure ?_; simp [*]; try (change Hold _)) | (with_reducible refine T.block ?_) | ((with_reducible refine T.skip ?_); simp [*]) | ((with_reducible refine T.exit ?_); simp [*]) | ((with_reducible refine T.br fun K1 K2 hK1 hK2 => ?_); simp [*]; try ((refine Br.intro (fun hc => ?_) (fun hc => ?_)) <;> (try simp at hc))) | (with_reducible refine Cont.go (by assumption) _ ?_) | (with_reducible refine Cnt.go (by assumption) ?_))
    all_goals (unfold Hold at *; rw [hv])
  | some p =>
    obtain ⟨l, x⟩ := p
    have hfv : fdV 7 e = .tup [.sl (encL l) .no, .int .i64 x, .bool true] := by unfold fdV; rw [hf]
    have hv : Hold (ptV 7 e = .tup [.sl (encL l) .no, .int .i64 x, .bool (goodP 7 e (l, x))]) := by unfold Hold ptV; rw [hf]
    clear hf
    by_cases m : mkErr 7 l x = 0
    · have hm := mkRes_good m
      have hri : rightE (instE 7 l x) = 0 := mk_inst m
      have hg : goodP 7 e (l, x) = decide (ordE (instE 7 l x) e = 0) := by unfold goodP; rw [decide_eq_true m]; rfl
      rw [hg] at hv
      clear hg m
      generalize instE 7 l x = I at *
      repeat' (first | (with_reducible refine T.sq fun K hK => ?_) | ((first | ((with_reducible refine T.reg hE ?hd ?_); (case hd => kernel_rfl)) | ((with_reducible refine T.any hE mixed ?hd ?hok ?_); (case hd => kernel_rfl); (case hok => kernel_rfl))); simp [*]; (repeat' (split; all_goals (rename_i hc; try simp [*])))) | ((with_reducible refine T.ret ?_); refine fin_pure ?_; simp [*]; try (change Hold _)) | (with_reducible refine T.block ?_) | ((with_reducible refine T.skip ?_); simp [*]) | ((with_reducible refine T.exit ?_); simp [*]) | ((with_reducible refine T.br fun K1 K2 hK1 hK2 => ?_); simp [*]; try ((refine Br.intro (fun hc => ?_) (fun hc => ?_)) <;> (try simp at hc))) | (with_reducible refine Cont.go (by assumption) _ ?_) | (with_reducible refine Cnt.go (by assumption) ?_))
      all_goals (unfold Hold at *; rw [hv]; try simp)
    · have hm := mkRes_bad rfl m
      have hg : goodP 7 e (l, x) = false := by unfold goodP; rw [decide_eq_false m]; rfl
      rw [hg] at hv
      clear hg
      repeat' (first | (with_reducible refine T.sq fun K hK => ?_) | ((first | ((with_reducible refine T.reg hE ?hd ?_); (case hd => kernel_rfl)) | ((with_reducible refine T.any hE mixed ?hd ?hok ?_); (case hd => kernel_rfl); (case hok => kernel_rfl))); simp [*]; (repeat' (split; all_goals (rename_i hc; try simp [*])))) | ((with_reducible refine T.ret ?_); refine fin_pure ?_; simp [*]; try (change Hold _)) | (with_reducible refine T.block ?_) | ((with_reducible refine T.skip ?_); simp [*]) | ((with_reducible refine T.exit ?_); simp [*]) | ((with_reducible refine T.br fun K1 K2 hK1 hK2 => ?_); simp [*]; try ((refine Br.intro (fun hc => ?_) (fun hc => ?_)) <;> (try simp at hc))) | (with_reducible refine Cont.go (by assumption) _ ?_) | (with_reducible refine Cnt.go (by assumption) ?_))
      all_goals (unfold Hold at *; rw [hv]; try simp)
set_option maxHeartbeats 1000000 in
theorem ok_sParts : PureOk Tryz.prog 53 gParts := by
  intro args r h
  simp only [gParts] at h
  split at h
  · rename_i k s b mk fdv ev
    obtain ⟨e, he, h4⟩ := Option.bind_eq_some_iff.1 h
    clear h
    obtain rfl := dec_inv he
    split at h4
    · rename_i hok
      cases h4
      obtain ⟨h1, h2, h3⟩ := hok
      rcases seven h1 with rfl | rfl | rfl | rfl | rfl | rfl | rfl
      · simp [rowK] at h3
        obtain ⟨rfl, rfl, rfl, rfl⟩ := h3
        exact ok_pt1 h2
      · simp [rowK] at h3
        obtain ⟨rfl, rfl, rfl, rfl⟩ := h3
        exact ok_pt2 h2
      · simp [rowK] at h3
        obtain ⟨rfl, rfl, rfl, rfl⟩ := h3
        exact ok_pt3 h2
      · simp [rowK] at h3
        obtain ⟨rfl, rfl, rfl, rfl⟩ := h3
        exact ok_pt4 h2
      · simp [rowK] at h3
        obtain ⟨rfl, rfl, rfl, rfl⟩ := h3
        exact ok_pt5 h2
      · simp [rowK] at h3
        obtain ⟨rfl, rfl, rfl, rfl⟩ := h3
        exact ok_pt6 h2
      · simp [rowK] at h3
        obtain ⟨rfl, rfl, rfl, rfl⟩ := h3
        exact ok_pt7 h2
    · cases h4
  · cases h
/-! ### Parts -/
def ptErr (k : Int) (e : Ex) : Int := if 1 ≤ k ∧ k ≤ 7 then (if wantF e ≠ 0 then wantF e else if validB k e = true then 0 else 73) else 70
def ptP (k : Int) (e : Ex) : List Ex × Int := if ptErr k e = 0 then gs k e else ([], 0)
def ptRes (k : Int) (e : Ex) : V := .tup [.agg [.sl (encL (ptP k e).1) .no, .int .i64 (ptP k e).2], .int .i64 (ptErr k e)]
theorem ptRes_bad {k : Int} {e : Ex} {n : Int} (h : ptErr k e = n) (hn : n ≠ 0) : ptRes k e = .tup [.agg [.sl [] .no, .int .i64 0], .int .i64 n] := by
  unfold ptRes ptP; rw [h, if_neg hn]; rfl
theorem ptRes_good {k : Int} {e : Ex} (h : ptErr k e = 0) : ptRes k e = .tup [.agg [.sl (encL (gs k e).1) .no, .int .i64 (gs k e).2], .int .i64 0] := by
  unfold ptRes ptP; rw [h, if_pos rfl]
theorem sort_f (e : Ex) : sortE [e] ⟨#[102]⟩ = wantF e := by
  unfold sortE wantF
  by_cases h : rightE e = 0
  · have h1 : firstBad [e] = 0 := by unfold firstBad; rw [if_neg (by simpa using h)]; rfl
    rw [h1, h]
    cases ht : isT e <;> simp [sortsOk, ht]
  · have h1 : firstBad [e] = rightE e := by unfold firstBad; rw [if_pos h]
    rw [h1, if_pos h, if_pos h]
theorem pick_row {k : Int} (h : okK k) : ∃ s b mk fdv, pickR k = .tup [.agg [.int .i64 k, .str s, .bool b, .fn mk [], .fn fdv []], .bool true] ∧ rowK k = [.int .i64 k, .str s, .bool b, .fn mk [], .fn fdv []] := by
  rcases seven h with rfl | rfl | rfl | rfl | rfl | rfl | rfl
  all_goals exact ⟨_, _, _, _, rfl, rfl⟩
theorem pt_valid {k : Int} {e : Ex} (hk : okK k) (h : validB k e = true) : ptV k e = .tup [.sl (encL (gs k e).1) .no, .int .i64 (gs k e).2, .bool true] := by
  have h1 := (parts_law hk e).2 h
  unfold ptV; rw [h1]
  show V.tup [_, _, .bool (goodP k e (gs k e))] = _
  unfold validB at h; rw [h]
theorem pt_not {k : Int} {e : Ex} (hk : okK k) (h : validB k e = false) : ∃ l x, ptV k e = .tup [.sl (encL l) .no, .int .i64 x, .bool false] := by
  have h1 := (parts_law hk e).1
  rw [h] at h1
  unfold ptV
  cases hf : fd k e with
  | none => exact ⟨[], 0, rfl⟩
  | some p => rw [hf] at h1; exact ⟨p.1, p.2, by show V.tup [_, _, .bool (goodP k e p)] = _; rw [show goodP k e p = false from h1]⟩
@[simp] def gPartsR : List V → Option V := f2 (kI .i64) kE fun k e => some (ptRes k e)
set_option maxHeartbeats 2000000 in
theorem ok_PartsS : PureOk Tryz.prog 22 gPartsR := by
  intro args r h
  obtain ⟨k, e, rfl, ⟨⟩⟩ := f2_inv h; clear h
  have hE := (((((EnvOk.nil (P := Tryz.prog) (eq := fun _ => false) (own := fun _ => false) (mem := fun _ => false) EqOk.none).addf ok_schema).addf ok_sSorted).addf ok_sParts).addf ok_At)
  refine ⟨⟨Tryz.f22, Tryz.func22, by decide, rfl⟩, pure_of_T Tryz.func22 rfl (by simp [Tryz.ntmps22]) fun q => ?_⟩
  have hr1 : List.range 1 = [0] := rfl
  have hz : ByteArray.size ⟨#[102]⟩ = 1 := rfl
  have hsf := sort_f e
  have hd0 : decI .i64 [] = some [] := rfl
  by_cases hk : 1 ≤ k ∧ k ≤ 7
  rotate_left
  · have hpk : pickR k = .tup [.agg rowZ, .bool false] := by
      unfold pickR
      rw [if_neg (by omega), if_neg (by omega), if_neg (by omega), if_neg (by omega), if_neg (by omega), if_neg (by omega), if_neg (by omega)]
    have hpz : rowZ = [.int .i64 0, .str ⟨#[]⟩, .bool false, .nilf, .nilf] := rfl
    rw [hpz] at hpk
    have hv : Hold (ptRes k e = .tup [.agg [.sl [] .no, .int .i64 0], .int .i64 70]) := ptRes_bad (by unfold ptErr; rw [if_neg hk]) (by omega)
    repeat' (first | (with_reducible refine T.sq fun K hK => ?_) | ((first | ((with_reducible refine T.reg hE ?hd ?_); (case hd => kernel_rfl)) | ((with_reducible refine T.any hE mixed ?hd ?hok ?_); (case hd => kernel_rfl); (case hok => kernel_rfl))); simp [*]; (repeat' (split; all_goals (rename_i hc; try simp [*])))) | ((with_reducible refine T.ret ?_); refine fin_pure ?_; simp [*]; try (change Hold _)) | (with_reducible refine T.block ?_) | ((with_reducible refine T.skip ?_); simp [*]) | ((with_reducible refine T.exit ?_); simp [*]) | ((with_reducible refine T.br fun K1 K2 hK1 hK2 => ?_); simp [*]; try ((refine Br.intro (fun hc => ?_) (fun hc => ?_)) <;> (try simp at hc))) | (with_reducible refine Cont.go (by assumption) _ ?_) | (with_reducible refine Cnt.go (by assumption) ?_))
    all_goals (unfold Hold at *; rw [hv]; try simp)
  have hkk : okK k := hk
  obtain ⟨s, b, mk, fdv, hpk, hrow⟩ := pick_row hkk
  have he0 : Hold (ptErr k e = if wantF e ≠ 0 then wantF e else if validB k e = true then 0 else 73) := by unfold Hold ptErr; rw [if_pos hk]
  by_cases w : wantF e = 0
  rotate_left
  · have hv : Hold (ptRes k e = .tup [.agg [.sl [] .no, .int .i64 0], .int .i64 (wantF e)]) := ptRes_bad (by unfold Hold at he0; rw [he0, if_pos w]) w
    clear he0 hrow hk hkk
    repeat' (first | (with_reducible refine T.sq fun K hK => ?_) | ((first | ((with_reducible refine T.reg hE ?hd ?_); (case hd => kernel_rfl)) | ((with_reducible refine T.any hE mixed ?hd ?hok ?_); (case hd => kernel_rfl); (case hok => kernel_rfl))); simp [*]; (repeat' (split; all_goals (rename_i hc; try simp [*])))) | ((with_reducible refine T.ret ?_); refine fin_pure ?_; simp [*]; try (change Hold _)) | (with_reducible refine T.block ?_) | ((with_reducible refine T.skip ?_); simp [*]) | ((with_reducible refine T.exit ?_); simp [*]) | ((with_reducible refine T.br fun K1 K2 hK1 hK2 => ?_); simp [*]; try ((refine Br.intro (fun hc => ?_) (fun hc => ?_)) <;> (try simp at hc))) | (with_reducible refine Cont.go (by assumption) _ ?_) | (with_reducible refine Cnt.go (by assumption) ?_))
    all_goals (unfold Hold at *; rw [hv]; try simp)
  obtain ⟨hre, hnt⟩ := wantF_zero w
  have hok : okPt k s b mk fdv e := ⟨hkk, hre, hrow⟩
  have he1 : Hold (ptErr k e = if validB k e = true then 0 else 73) := by unfold Hold at *; rw [he0, if_neg (by omega)]
  clear he0 hrow hk
  cases hvb : validB k e with
  | false =>
    have hv : Hold (ptRes k e = .tup [.agg [.sl [] .no, .int .i64 0], .int .i64 73]) := ptRes_bad (by unfold Hold at he1; rw [he1, hvb]; rfl) (by omega)
    obtain ⟨l, x, hpt⟩ := pt_not hkk hvb
    clear he1 hvb hkk
    repeat' (first | (with_reducible refine T.sq fun K hK => ?_) | ((first | ((with_reducible refine T.reg hE ?hd ?_); (case hd => kernel_rfl)) | ((with_reducible refine T.any hE mixed ?hd ?hok ?_); (case hd => kernel_rfl); (case hok => kernel_rfl))); simp [*]; (repeat' (split; all_goals (rename_i hc; try simp [*])))) | ((with_reducible refine T.ret ?_); refine fin_pure ?_; simp [*]; try (change Hold _)) | (with_reducible refine T.block ?_) | ((with_reducible refine T.skip ?_); simp [*]) | ((with_reducible refine T.exit ?_); simp [*]) | ((with_reducible refine T.br fun K1 K2 hK1 hK2 => ?_); simp [*]; try ((refine Br.intro (fun hc => ?_) (fun hc => ?_)) <;> (try simp at hc))) | (with_reducible refine Cont.go (by assumption) _ ?_) | (with_reducible refine Cnt.go (by assumption) ?_))
    all_goals (unfold Hold at *; rw [hv]; try simp)
  | true =>
    have hv : Hold (ptRes k e = _) := ptRes_good (by unfold Hold at he1; rw [he1, hvb]; rfl)
    have hpt := pt_valid hkk hvb
    obtain ⟨hme, _⟩ := good_iff.1 hvb
    obtain ⟨_, hprt, hse⟩ := mk_ok hme
    have hall := (sortE_ok hse).1
    have hl4 : (gs k e).1.length ≤ 1000 := by
      have := hprt.1
      have h2 : (srtS k).size ≤ 4 := by rcases seven hkk with rfl | rfl | rfl | rfl | rfl | rfl | rfl <;> decide
      omega
    clear he1 hvb hkk hme hprt hse
    generalize gs k e = P at *
    obtain ⟨l, x⟩ := P
    simp only at hpt hv hall hl4
    repeat' (first | (with_reducible refine T.sq fun K hK => ?_) | ((first | ((with_reducible refine T.reg hE ?hd ?_); (case hd => kernel_rfl)) | ((with_reducible refine T.any hE mixed ?hd ?hok ?_); (case hd => kernel_rfl); (case hok => kernel_rfl))); simp [*]; (repeat' (split; all_goals (rename_i hc; try simp [*])))) | ((with_reducible refine T.ret ?_); refine fin_pure ?_; simp [*]; try (change Hold _)) | (with_reducible refine T.block ?_) | ((with_reducible refine T.skip ?_); simp [*]) | ((with_reducible refine T.exit ?_); simp [*]) | ((with_reducible refine T.br fun K1 K2 hK1 hK2 => ?_); simp [*]; try ((refine Br.intro (fun hc => ?_) (fun hc => ?_)) <;> (try simp at hc))) | (with_reducible refine Cont.go (by assumption) _ ?_) | (with_reducible refine Cnt.go (by assumption) ?_))
    refine T.loop (fun n σ => ∃ (j : Nat) (w : V), n = l.length - j ∧ σ.get 4 = .ptr (0 :: 6 :: q) 0 ∧ (∃ c0 c1, σ.M (0 :: 6 :: q) = some (.cells [c0, c1])) ∧ σ.get 11 = .ptr (0 :: 13 :: q) 0 ∧ σ.M (0 :: 13 :: q) = some (.cells [w, .int .i64 x]) ∧ σ.get 43 = .sl (encL l) .no ∧ σ.get 44 = .int .i64 l.length ∧ σ.get 45 = .int .i64 j ∧ j ≤ l.length ∧ Hold ((j = 0 ∧ w = .nils) ∨ (0 < j ∧ ∃ id, w = .sl (encL (l.take j)) (.own id 3) ∧ σ.K id = true))) l.length ⟨0, .nils, by simp, by simp [*], by simp [*], by simp [*], by simp [*], by simp [*], by simp [*], by simp [*], by omega, .inl ⟨rfl, rfl⟩⟩ ?_
    rintro n σ ⟨j, w, rfl, g1, ⟨c0, c1, m1⟩, g2, m2, g3, g4, g5, g6, g7⟩
    by_cases hj : j < l.length
    · have hw : IntKind.i64.wrap ((j : Int) + 1) = (j : Int) + 1 := wrap64 (by omega) (by omega)
      have hw1 : IntKind.i64.wrap 1 = 1 := wrap64 (by omega) (by omega)
      have hrj := hall l[j] (List.getElem_mem hj)
      have hpv := partV_nil0 l[j]
      rw [frV_good hrj] at hpv
      have ht2 : Hold (encL (l.take (j + 1)) = encL (l.take j) ++ [[.int .i64 l[j].k, .int .i64 l[j].i, .sl (encL l[j].kids) .no]]) := encL_take_succ l j hj
      have hl2 : (l.take j).length = j := by rw [List.length_take]; omega
      have u1 : (j + 1) * 40 ≤ 140737488355328 := by omega
      clear hall
      rcases g7 with ⟨rfl, rfl⟩ | ⟨hj0, id, rfl, hK⟩
      · repeat' (first | (with_reducible refine T.sq fun K hK => ?_) | ((first | ((with_reducible refine T.reg hE ?hd ?_); (case hd => kernel_rfl)) | ((with_reducible refine T.any hE mixed ?hd ?hok ?_); (case hd => kernel_rfl); (case hok => kernel_rfl))); simp [*]; (repeat' (split; all_goals (rename_i hc; try simp [*])))) | ((with_reducible refine T.ret ?_); refine fin_pure ?_; simp [*]; try (change Hold _)) | (with_reducible refine T.block ?_) | ((with_reducible refine T.skip ?_); simp [*]) | ((with_reducible refine T.exit ?_); simp [*]) | ((with_reducible refine T.br fun K1 K2 hK1 hK2 => ?_); simp [*]; try ((refine Br.intro (fun hc => ?_) (fun hc => ?_)) <;> (try simp at hc))) | (with_reducible refine Cont.go (by assumption) _ ?_) | (with_reducible refine Cnt.go (by assumption) ?_))
        refine ⟨l.length - 1, by omega, 1, rfl, by omega, by omega, by omega, _, ⟨?_, rfl⟩, .inl rfl⟩
        unfold Hold at ht2; rw [ht2]; rfl
      · have hl3 : (∀ el : List V, el ∈ encL (l.take j) → el.length = 3) = True := eq_true (encL_len3 _)
        repeat' (first | (with_reducible refine T.sq fun K hK => ?_) | ((first | ((with_reducible refine T.reg hE ?hd ?_); (case hd => kernel_rfl)) | ((with_reducible refine T.any hE mixed ?hd ?hok ?_); (case hd => kernel_rfl); (case hok => kernel_rfl))); simp [*]; (repeat' (split; all_goals (rename_i hc; try simp [*])))) | ((with_reducible refine T.ret ?_); refine fin_pure ?_; simp [*]; try (change Hold _)) | (with_reducible refine T.block ?_) | ((with_reducible refine T.skip ?_); simp [*]) | ((with_reducible refine T.exit ?_); simp [*]) | ((with_reducible refine T.br fun K1 K2 hK1 hK2 => ?_); simp [*]; try ((refine Br.intro (fun hc => ?_) (fun hc => ?_)) <;> (try simp at hc))) | (with_reducible refine Cont.go (by assumption) _ ?_) | (with_reducible refine Cnt.go (by assumption) ?_))
        refine ⟨l.length - (j + 1), by omega, j + 1, rfl, by omega, by omega, by omega, _, ⟨?_, rfl⟩, .inl rfl⟩
        unfold Hold at ht2; rw [ht2]
    · have w8 : j = l.length := by omega
      subst w8
      clear hall
      rcases g7 with ⟨h0, rfl⟩ | ⟨hj0, id, rfl, hK⟩
      · have hn : l = [] := List.eq_nil_of_length_eq_zero h0
        subst hn
        repeat' (first | (with_reducible refine T.sq fun K hK => ?_) | ((first | ((with_reducible refine T.reg hE ?hd ?_); (case hd => kernel_rfl)) | ((with_reducible refine T.any hE mixed ?hd ?hok ?_); (case hd => kernel_rfl); (case hok => kernel_rfl))); simp [*]; (repeat' (split; all_goals (rename_i hc; try simp [*])))) | ((with_reducible refine T.ret ?_); refine fin_pure ?_; simp [*]; try (change Hold _)) | (with_reducible refine T.block ?_) | ((with_reducible refine T.skip ?_); simp [*]) | ((with_reducible refine T.exit ?_); simp [*]) | ((with_reducible refine T.br fun K1 K2 hK1 hK2 => ?_); simp [*]; try ((refine Br.intro (fun hc => ?_) (fun hc => ?_)) <;> (try simp at hc))) | (with_reducible refine Cont.go (by assumption) _ ?_) | (with_reducible refine Cnt.go (by assumption) ?_))
        all_goals (unfold Hold at *; rw [hv]; try simp)
      · rw [List.take_length] at m2
        repeat' (first | (with_reducible refine T.sq fun K hK => ?_) | ((first | ((with_reducible refine T.reg hE ?hd ?_); (case hd => kernel_rfl)) | ((with_reducible refine T.any hE mixed ?hd ?hok ?_); (case hd => kernel_rfl); (case hok => kernel_rfl))); simp [*]; (repeat' (split; all_goals (rename_i hc; try simp [*])))) | ((with_reducible refine T.ret ?_); refine fin_pure ?_; simp [*]; try (change Hold _)) | (with_reducible refine T.block ?_) | ((with_reducible refine T.skip ?_); simp [*]) | ((with_reducible refine T.exit ?_); simp [*]) | ((with_reducible refine T.br fun K1 K2 hK1 hK2 => ?_); simp [*]; try ((refine Br.intro (fun hc => ?_) (fun hc => ?_)) <;> (try simp at hc))) | (with_reducible refine Cont.go (by assumption) _ ?_) | (with_reducible refine Cnt.go (by assumption) ?_))
        all_goals (unfold Hold at *; rw [hv]; try simp)
/-! ### Is, Which -/
def isR (k : Int) (e : Ex) : V := .tup [.bool (decide (ptErr k e = 0)), .int .i64 (if ptErr k e = 73 then 0 else ptErr k e)]
@[simp] def gIsR : List V → Option V := f2 (kI .i64) kE fun k e => some (isR k e)
theorem ok_IsS : PureOk Tryz.prog 25 gIsR := by
  intro args r h
  obtain ⟨k, e, rfl, ⟨⟩⟩ := f2_inv h; clear h
  have hE := ((EnvOk.nil (P := Tryz.prog) (eq := fun _ => false) (own := fun _ => false) (mem := fun _ => false) EqOk.none).addf ok_PartsS)
  refine ⟨⟨Tryz.f25, Tryz.func25, by decide, rfl⟩, pure_of_T Tryz.func25 rfl (by simp [Tryz.ntmps25]) fun q => ?_⟩
  have hp : ptRes k e = .tup [.agg [.sl (encL (ptP k e).1) .no, .int .i64 (ptP k e).2], .int .i64 (ptErr k e)] := rfl
  by_cases c : ptErr k e = 73
  · have hv : Hold (isR k e = .tup [.bool false, .int .i64 0]) := by unfold Hold isR; rw [c]; rfl
    repeat' (first | (with_reducible refine T.sq fun K hK => ?_) | ((first | ((with_reducible refine T.reg hE ?hd ?_); (case hd => kernel_rfl)) | ((with_reducible refine T.any hE mixed ?hd ?hok ?_); (case hd => kernel_rfl); (case hok => kernel_rfl))); simp [*]; (repeat' (split; all_goals (rename_i hc; try simp [*])))) | ((with_reducible refine T.ret ?_); refine fin_pure ?_; simp [*]; try (change Hold _)) | (with_reducible refine T.block ?_) | ((with_reducible refine T.skip ?_); simp [*]) | ((with_reducible refine T.exit ?_); simp [*]) | ((with_reducible refine T.br fun K1 K2 hK1 hK2 => ?_); simp [*]; try ((refine Br.intro (fun hc => ?_) (fun hc => ?_)) <;> (try simp at hc))) | (with_reducible refine Cont.go (by assumption) _ ?_) | (with_reducible refine Cnt.go (by assumption) ?_))
    all_goals (unfold Hold at *; rw [hv]; try simp)
  · by_cases d : ptErr k e = 0
    · have hv : Hold (isR k e = .tup [.bool true, .int .i64 0]) := by unfold Hold isR; rw [d]; rfl
      repeat' (first | (with_reducible refine T.sq fun K hK => ?_) | ((first | ((with_reducible refine T.reg hE ?hd ?_); (case hd => kernel_rfl)) | ((with_reducible refine T.any hE mixed ?hd ?hok ?_); (case hd => kernel_rfl); (case hok => kernel_rfl))); simp [*]; (repeat' (split; all_goals (rename_i hc; try simp [*])))) | ((with_reducible refine T.ret ?_); refine fin_pure ?_; simp [*]; try (change Hold _)) | (with_reducible refine T.block ?_) | ((with_reducible refine T.skip ?_); simp [*]) | ((with_reducible refine T.exit ?_); simp [*]) | ((with_reducible refine T.br fun K1 K2 hK1 hK2 => ?_); simp [*]; try ((refine Br.intro (fun hc => ?_) (fun hc => ?_)) <;> (try simp at hc))) | (with_reducible refine Cont.go (by assumption) _ ?_) | (with_reducible refine Cnt.go (by assumption) ?_))
      all_goals (unfold Hold at *; rw [hv]; try simp)
    · have hv : Hold (isR k e = .tup [.bool false, .int .i64 (ptErr k e)]) := by unfold Hold isR; rw [decide_eq_false d, if_neg c]
      repeat' (first | (with_reducible refine T.sq fun K hK => ?_) | ((first | ((with_reducible refine T.reg hE ?hd ?_); (case hd => kernel_rfl)) | ((with_reducible refine T.any hE mixed ?hd ?hok ?_); (case hd => kernel_rfl); (case hok => kernel_rfl))); simp [*]; (repeat' (split; all_goals (rename_i hc; try simp [*])))) | ((with_reducible refine T.ret ?_); refine fin_pure ?_; simp [*]; try (change Hold _)) | (with_reducible refine T.block ?_) | ((with_reducible refine T.skip ?_); simp [*]) | ((with_reducible refine T.exit ?_); simp [*]) | ((with_reducible refine T.br fun K1 K2 hK1 hK2 => ?_); simp [*]; try ((refine Br.intro (fun hc => ?_) (fun hc => ?_)) <;> (try simp at hc))) | (with_reducible refine Cont.go (by assumption) _ ?_) | (with_reducible refine Cnt.go (by assumption) ?_))
      all_goals (unfold Hold at *; rw [hv]; try simp)
end Go.Proofs.YtibfdebhbibfpaaGreat.Ax
