/- Contracts: one term put in, by the program and by the reference; the law SubstPuts. -/
import Derived.Test.YtaacfmakfkaddaaDoorCxS
set_option linter.unusedVariables false
set_option linter.unusedSimpArgs false
namespace Go.Proofs.YtaacfmakfkaddaaDoor.Ax
open Go Go.Proofs

def askE (a : Ex) (x : Int) (t : Ex) : Int := if 0 ≤ x ∧ x ≤ 63 then (if bothE a t ≠ 0 then bothE a t else if isT t = true then 0 else 40) else 1
theorem ask_ok {a t : Ex} {x : Int} (h : askE a x t = 0) : (0 ≤ x ∧ x ≤ 63) ∧ rightE a = 0 ∧ rightE t = 0 ∧ isT t = true := by
  unfold askE at h
  split at h
  · rename_i hx
    split at h
    · rename_i c; exact absurd h c
    · rename_i c
      have hb : bothE a t = 0 := by omega
      unfold bothE at hb
      split at hb
      · rename_i d; exact absurd hb d
      · rename_i d
        split at h
        · rename_i ht; exact ⟨hx, by omega, hb, ht⟩
        · cases h
  · cases h
@[simp] def gAskedS : List V → Option V := f3 kE (kI .i64) kE fun a x t => some (.int .i64 (askE a x t))
theorem ok_sIsVar : PureOk Tryd.prog 77 gIsVar := by
  intro args r h
  obtain ⟨x, rfl, ⟨⟩⟩ := f1_inv h
  clear h
  have hE := (EnvOk.nil (P := Tryd.prog) (eq := fun _ => false) (own := fun _ => false) (mem := fun _ => false) EqOk.none)
  refine ⟨⟨Tryd.f77, Tryd.func77, by decide, rfl⟩, pure_of_T Tryd.func77 rfl (by simp [Tryd.ntmps77]) fun q => ?_⟩
  by_cases c1 : 0 ≤ x
  · by_cases c2 : x ≤ 63
    · repeat' (first | (with_reducible refine T.sq fun K hK => ?_) | ((first | ((with_reducible refine T.reg hE ?hd ?_); (case hd => kernel_rfl)) | ((with_reducible refine T.any hE mixed ?hd ?hok ?_); (case hd => kernel_rfl); (case hok => kernel_rfl))); simp [*]; (repeat' (split; all_goals (rename_i hc; try simp [*])))) | ((with_reducible refine T.ret ?_); refine fin_pure ?_; simp [*]; try (change Hold _)) | (with_reducible refine T.block ?_) | ((with_reducible refine T.skip ?_); simp [*]) | ((with_reducible refine T.exit ?_); simp [*]) | ((with_reducible refine T.br fun K1 K2 hK1 hK2 => ?_); simp [*]; try ((refine Br.intro (fun hc => ?_) (fun hc => ?_)) <;> (try simp at hc))) | (with_reducible refine Cont.go (by assumption) _ ?_) | (with_reducible refine Cnt.go (by assumption) ?_))
      all_goals (unfold Hold; simp [c1, c2])
    · repeat' (first | (with_reducible refine T.sq fun K hK => ?_) | ((first | ((with_reducible refine T.reg hE ?hd ?_); (case hd => kernel_rfl)) | ((with_reducible refine T.any hE mixed ?hd ?hok ?_); (case hd => kernel_rfl); (case hok => kernel_rfl))); simp [*]; (repeat' (split; all_goals (rename_i hc; try simp [*])))) | ((with_reducible refine T.ret ?_); refine fin_pure ?_; simp [*]; try (change Hold _)) | (with_reducible refine T.block ?_) | ((with_reducible refine T.skip ?_); simp [*]) | ((with_reducible refine T.exit ?_); simp [*]) | ((with_reducible refine T.br fun K1 K2 hK1 hK2 => ?_); simp [*]; try ((refine Br.intro (fun hc => ?_) (fun hc => ?_)) <;> (try simp at hc))) | (with_reducible refine Cont.go (by assumption) _ ?_) | (with_reducible refine Cnt.go (by assumption) ?_))
      all_goals (unfold Hold; simp [c1, c2])
  · repeat' (first | (with_reducible refine T.sq fun K hK => ?_) | ((first | ((with_reducible refine T.reg hE ?hd ?_); (case hd => kernel_rfl)) | ((with_reducible refine T.any hE mixed ?hd ?hok ?_); (case hd => kernel_rfl); (case hok => kernel_rfl))); simp [*]; (repeat' (split; all_goals (rename_i hc; try simp [*])))) | ((with_reducible refine T.ret ?_); refine fin_pure ?_; simp [*]; try (change Hold _)) | (with_reducible refine T.block ?_) | ((with_reducible refine T.skip ?_); simp [*]) | ((with_reducible refine T.exit ?_); simp [*]) | ((with_reducible refine T.br fun K1 K2 hK1 hK2 => ?_); simp [*]; try ((refine Br.intro (fun hc => ?_) (fun hc => ?_)) <;> (try simp at hc))) | (with_reducible refine Cont.go (by assumption) _ ?_) | (with_reducible refine Cnt.go (by assumption) ?_))
    all_goals (unfold Hold; simp [c1])
set_option maxHeartbeats 1000000 in
theorem ok_sAsked : PureOk Tryd.prog 38 gAskedS := by
  intro args r h
  obtain ⟨a, x, t, rfl, ⟨⟩⟩ := f3_inv h
  clear h
  have hE := ((((EnvOk.nil (P := Tryd.prog) (eq := fun _ => false) (own := fun _ => false) (mem := fun _ => false) EqOk.none).addf ok_sIsVar).addf ok_Right).addf ok_IsTerm)
  have hr2 : List.range 2 = [0, 1] := rfl
  refine ⟨⟨Tryd.f38, Tryd.func38, by decide, rfl⟩, pure_of_T Tryd.func38 rfl (by simp [Tryd.ntmps38]) fun q => ?_⟩
  by_cases c1 : 0 ≤ x
  rotate_left
  · have hn : Hold (askE a x t = 1) := by unfold Hold askE; rw [if_neg (by omega)]
    repeat' (first | (with_reducible refine T.sq fun K hK => ?_) | ((first | ((with_reducible refine T.reg hE ?hd ?_); (case hd => kernel_rfl)) | ((with_reducible refine T.any hE mixed ?hd ?hok ?_); (case hd => kernel_rfl); (case hok => kernel_rfl))); simp [*]; (repeat' (split; all_goals (rename_i hc; try simp [*])))) | ((with_reducible refine T.ret ?_); refine fin_pure ?_; simp [*]; try (change Hold _)) | (with_reducible refine T.block ?_) | ((with_reducible refine T.skip ?_); simp [*]) | ((with_reducible refine T.exit ?_); simp [*]) | ((with_reducible refine T.br fun K1 K2 hK1 hK2 => ?_); simp [*]; try ((refine Br.intro (fun hc => ?_) (fun hc => ?_)) <;> (try simp at hc))) | (with_reducible refine Cont.go (by assumption) _ ?_) | (with_reducible refine Cnt.go (by assumption) ?_))
    all_goals (unfold Hold at *; rw [hn])
  by_cases c2 : x ≤ 63
  rotate_left
  · have hn : Hold (askE a x t = 1) := by unfold Hold askE; rw [if_neg (by omega)]
    repeat' (first | (with_reducible refine T.sq fun K hK => ?_) | ((first | ((with_reducible refine T.reg hE ?hd ?_); (case hd => kernel_rfl)) | ((with_reducible refine T.any hE mixed ?hd ?hok ?_); (case hd => kernel_rfl); (case hok => kernel_rfl))); simp [*]; (repeat' (split; all_goals (rename_i hc; try simp [*])))) | ((with_reducible refine T.ret ?_); refine fin_pure ?_; simp [*]; try (change Hold _)) | (with_reducible refine T.block ?_) | ((with_reducible refine T.skip ?_); simp [*]) | ((with_reducible refine T.exit ?_); simp [*]) | ((with_reducible refine T.br fun K1 K2 hK1 hK2 => ?_); simp [*]; try ((refine Br.intro (fun hc => ?_) (fun hc => ?_)) <;> (try simp at hc))) | (with_reducible refine Cont.go (by assumption) _ ?_) | (with_reducible refine Cnt.go (by assumption) ?_))
    all_goals (unfold Hold at *; rw [hn])
  have he : Hold (askE a x t = if bothE a t ≠ 0 then bothE a t else if isT t = true then 0 else 40) := by unfold Hold askE; rw [if_pos ⟨c1, c2⟩]
  repeat' (first | (with_reducible refine T.sq fun K hK => ?_) | ((first | ((with_reducible refine T.reg hE ?hd ?_); (case hd => kernel_rfl)) | ((with_reducible refine T.any hE mixed ?hd ?hok ?_); (case hd => kernel_rfl); (case hok => kernel_rfl))); simp [*]; (repeat' (split; all_goals (rename_i hc; try simp [*])))) | ((with_reducible refine T.ret ?_); refine fin_pure ?_; simp [*]; try (change Hold _)) | (with_reducible refine T.block ?_) | ((with_reducible refine T.skip ?_); simp [*]) | ((with_reducible refine T.exit ?_); simp [*]) | ((with_reducible refine T.br fun K1 K2 hK1 hK2 => ?_); simp [*]; try ((refine Br.intro (fun hc => ?_) (fun hc => ?_)) <;> (try simp at hc))) | (with_reducible refine Cont.go (by assumption) _ ?_) | (with_reducible refine Cnt.go (by assumption) ?_))
  refine T.loop (fun n σ => σ.get 15 = .sl [encC a, encC t] .ex ∧ σ.get 16 = .int .i64 2 ∧ σ.get 5 = .ptr (0 :: 7 :: q) 0 ∧ σ.M (0 :: 7 :: q) = some (.cells (encC t)) ∧
    ((n = 2 ∧ σ.get 17 = .int .i64 0) ∨ (n = 1 ∧ σ.get 17 = .int .i64 1 ∧ rightE a = 0) ∨ (n = 0 ∧ σ.get 17 = .int .i64 2 ∧ rightE a = 0 ∧ rightE t = 0))) 2 ⟨by simp [encC_eq], by simp, by simp, by simp [encC_eq], .inl ⟨rfl, by simp⟩⟩ ?_
  rintro n σ ⟨g1, g2, g3, g5, g7⟩
  rw [encC_eq] at g5
  rw [encC_eq, encC_eq] at g1
  rcases g7 with ⟨rfl, g7⟩ | ⟨rfl, g7, v1⟩ | ⟨rfl, g7, v1, v2⟩
  · have hw : IntKind.i64.wrap 1 = 1 := wrap64 (by omega) (by omega)
    by_cases v1 : rightE a = 0
    · repeat' (first | (with_reducible refine T.sq fun K hK => ?_) | ((first | ((with_reducible refine T.reg hE ?hd ?_); (case hd => kernel_rfl)) | ((with_reducible refine T.any hE mixed ?hd ?hok ?_); (case hd => kernel_rfl); (case hok => kernel_rfl))); simp [*]; (repeat' (split; all_goals (rename_i hc; try simp [*])))) | ((with_reducible refine T.ret ?_); refine fin_pure ?_; simp [*]; try (change Hold _)) | (with_reducible refine T.block ?_) | ((with_reducible refine T.skip ?_); simp [*]) | ((with_reducible refine T.exit ?_); simp [*]) | ((with_reducible refine T.br fun K1 K2 hK1 hK2 => ?_); simp [*]; try ((refine Br.intro (fun hc => ?_) (fun hc => ?_)) <;> (try simp at hc))) | (with_reducible refine Cont.go (by assumption) _ ?_) | (with_reducible refine Cnt.go (by assumption) ?_))
      all_goals simp [encC_eq, *]
    · have hb : Hold (askE a x t = rightE a) := by unfold Hold bothE at *; rw [he, if_pos v1, if_pos v1]
      repeat' (first | (with_reducible refine T.sq fun K hK => ?_) | ((first | ((with_reducible refine T.reg hE ?hd ?_); (case hd => kernel_rfl)) | ((with_reducible refine T.any hE mixed ?hd ?hok ?_); (case hd => kernel_rfl); (case hok => kernel_rfl))); simp [*]; (repeat' (split; all_goals (rename_i hc; try simp [*])))) | ((with_reducible refine T.ret ?_); refine fin_pure ?_; simp [*]; try (change Hold _)) | (with_reducible refine T.block ?_) | ((with_reducible refine T.skip ?_); simp [*]) | ((with_reducible refine T.exit ?_); simp [*]) | ((with_reducible refine T.br fun K1 K2 hK1 hK2 => ?_); simp [*]; try ((refine Br.intro (fun hc => ?_) (fun hc => ?_)) <;> (try simp at hc))) | (with_reducible refine Cont.go (by assumption) _ ?_) | (with_reducible refine Cnt.go (by assumption) ?_))
      all_goals (unfold Hold at *; rw [hb])
  · have hw : IntKind.i64.wrap 2 = 2 := wrap64 (by omega) (by omega)
    have hb : bothE a t = rightE t := by unfold bothE; rw [if_neg (by omega)]
    by_cases v2 : rightE t = 0
    · repeat' (first | (with_reducible refine T.sq fun K hK => ?_) | ((first | ((with_reducible refine T.reg hE ?hd ?_); (case hd => kernel_rfl)) | ((with_reducible refine T.any hE mixed ?hd ?hok ?_); (case hd => kernel_rfl); (case hok => kernel_rfl))); simp [*]; (repeat' (split; all_goals (rename_i hc; try simp [*])))) | ((with_reducible refine T.ret ?_); refine fin_pure ?_; simp [*]; try (change Hold _)) | (with_reducible refine T.block ?_) | ((with_reducible refine T.skip ?_); simp [*]) | ((with_reducible refine T.exit ?_); simp [*]) | ((with_reducible refine T.br fun K1 K2 hK1 hK2 => ?_); simp [*]; try ((refine Br.intro (fun hc => ?_) (fun hc => ?_)) <;> (try simp at hc))) | (with_reducible refine Cont.go (by assumption) _ ?_) | (with_reducible refine Cnt.go (by assumption) ?_))
      all_goals simp [encC_eq, *]
    · have hb2 : Hold (askE a x t = rightE t) := by unfold Hold at *; rw [he, hb, if_pos v2]
      clear hb
      repeat' (first | (with_reducible refine T.sq fun K hK => ?_) | ((first | ((with_reducible refine T.reg hE ?hd ?_); (case hd => kernel_rfl)) | ((with_reducible refine T.any hE mixed ?hd ?hok ?_); (case hd => kernel_rfl); (case hok => kernel_rfl))); simp [*]; (repeat' (split; all_goals (rename_i hc; try simp [*])))) | ((with_reducible refine T.ret ?_); refine fin_pure ?_; simp [*]; try (change Hold _)) | (with_reducible refine T.block ?_) | ((with_reducible refine T.skip ?_); simp [*]) | ((with_reducible refine T.exit ?_); simp [*]) | ((with_reducible refine T.br fun K1 K2 hK1 hK2 => ?_); simp [*]; try ((refine Br.intro (fun hc => ?_) (fun hc => ?_)) <;> (try simp at hc))) | (with_reducible refine Cont.go (by assumption) _ ?_) | (with_reducible refine Cnt.go (by assumption) ?_))
      all_goals (unfold Hold at *; rw [hb2])
  · have hb : bothE a t = 0 := by unfold bothE; rw [if_neg (by omega)]; exact v2
    by_cases v3 : isT t = true
    · have hb2 : Hold (askE a x t = 0) := by unfold Hold at *; rw [he, hb, v3]; rfl
      clear hb
      repeat' (first | (with_reducible refine T.sq fun K hK => ?_) | ((first | ((with_reducible refine T.reg hE ?hd ?_); (case hd => kernel_rfl)) | ((with_reducible refine T.any hE mixed ?hd ?hok ?_); (case hd => kernel_rfl); (case hok => kernel_rfl))); simp [*]; (repeat' (split; all_goals (rename_i hc; try simp [*])))) | ((with_reducible refine T.ret ?_); refine fin_pure ?_; simp [*]; try (change Hold _)) | (with_reducible refine T.block ?_) | ((with_reducible refine T.skip ?_); simp [*]) | ((with_reducible refine T.exit ?_); simp [*]) | ((with_reducible refine T.br fun K1 K2 hK1 hK2 => ?_); simp [*]; try ((refine Br.intro (fun hc => ?_) (fun hc => ?_)) <;> (try simp at hc))) | (with_reducible refine Cont.go (by assumption) _ ?_) | (with_reducible refine Cnt.go (by assumption) ?_))
      all_goals (unfold Hold at *; rw [hb2])
    · have hb2 : Hold (askE a x t = 40) := by unfold Hold at *; rw [he, hb, if_neg (by omega), if_neg v3]
      rw [Bool.not_eq_true] at v3
      clear hb
      repeat' (first | (with_reducible refine T.sq fun K hK => ?_) | ((first | ((with_reducible refine T.reg hE ?hd ?_); (case hd => kernel_rfl)) | ((with_reducible refine T.any hE mixed ?hd ?hok ?_); (case hd => kernel_rfl); (case hok => kernel_rfl))); simp [*]; (repeat' (split; all_goals (rename_i hc; try simp [*])))) | ((with_reducible refine T.ret ?_); refine fin_pure ?_; simp [*]; try (change Hold _)) | (with_reducible refine T.block ?_) | ((with_reducible refine T.skip ?_); simp [*]) | ((with_reducible refine T.exit ?_); simp [*]) | ((with_reducible refine T.br fun K1 K2 hK1 hK2 => ?_); simp [*]; try ((refine Br.intro (fun hc => ?_) (fun hc => ?_)) <;> (try simp at hc))) | (with_reducible refine Cont.go (by assumption) _ ?_) | (with_reducible refine Cnt.go (by assumption) ?_))
      all_goals (unfold Hold at *; rw [hb2])
theorem ok_rAskedS : PureOk Tryd.prog 43 gAskedS := by
  intro args r h
  obtain ⟨a, x, t, rfl, ⟨⟩⟩ := f3_inv h
  clear h
  have hE := (((EnvOk.nil (P := Tryd.prog) (eq := fun _ => false) (own := fun _ => false) (mem := fun _ => false) EqOk.none).addf ok_rFirst).addf ok_rWantT)
  refine ⟨⟨Tryd.f43, Tryd.func43, by decide, rfl⟩, pure_of_T Tryd.func43 rfl (by simp [Tryd.ntmps43]) fun q => ?_⟩
  by_cases c1 : x < 0
  · have hn : Hold (askE a x t = 1) := by unfold Hold askE; rw [if_neg (by omega)]
    repeat' (first | (with_reducible refine T.sq fun K hK => ?_) | ((first | ((with_reducible refine T.reg hE ?hd ?_); (case hd => kernel_rfl)) | ((with_reducible refine T.any hE mixed ?hd ?hok ?_); (case hd => kernel_rfl); (case hok => kernel_rfl))); simp [*]; (repeat' (split; all_goals (rename_i hc; try simp [*])))) | ((with_reducible refine T.ret ?_); refine fin_pure ?_; simp [*]; try (change Hold _)) | (with_reducible refine T.block ?_) | ((with_reducible refine T.skip ?_); simp [*]) | ((with_reducible refine T.exit ?_); simp [*]) | ((with_reducible refine T.br fun K1 K2 hK1 hK2 => ?_); simp [*]; try ((refine Br.intro (fun hc => ?_) (fun hc => ?_)) <;> (try simp at hc))) | (with_reducible refine Cont.go (by assumption) _ ?_) | (with_reducible refine Cnt.go (by assumption) ?_))
    all_goals (unfold Hold at *; rw [hn])
  by_cases c2 : 63 < x
  · have hn : Hold (askE a x t = 1) := by unfold Hold askE; rw [if_neg (by omega)]
    repeat' (first | (with_reducible refine T.sq fun K hK => ?_) | ((first | ((with_reducible refine T.reg hE ?hd ?_); (case hd => kernel_rfl)) | ((with_reducible refine T.any hE mixed ?hd ?hok ?_); (case hd => kernel_rfl); (case hok => kernel_rfl))); simp [*]; (repeat' (split; all_goals (rename_i hc; try simp [*])))) | ((with_reducible refine T.ret ?_); refine fin_pure ?_; simp [*]; try (change Hold _)) | (with_reducible refine T.block ?_) | ((with_reducible refine T.skip ?_); simp [*]) | ((with_reducible refine T.exit ?_); simp [*]) | ((with_reducible refine T.br fun K1 K2 hK1 hK2 => ?_); simp [*]; try ((refine Br.intro (fun hc => ?_) (fun hc => ?_)) <;> (try simp at hc))) | (with_reducible refine Cont.go (by assumption) _ ?_) | (with_reducible refine Cnt.go (by assumption) ?_))
    all_goals (unfold Hold at *; rw [hn])
  have he : Hold (askE a x t = if bothE a t ≠ 0 then bothE a t else if isT t = true then 0 else 40) := by unfold Hold askE; rw [if_pos (by omega)]
  by_cases v : bothE a t = 0
  · have hb2 : Hold (askE a x t = wantT t) := by
      unfold Hold wantT at *
      have h2 : rightE t = 0 := by unfold bothE at v; split at v <;> omega
      rw [he, v, h2]; try rfl
    repeat' (first | (with_reducible refine T.sq fun K hK => ?_) | ((first | ((with_reducible refine T.reg hE ?hd ?_); (case hd => kernel_rfl)) | ((with_reducible refine T.any hE mixed ?hd ?hok ?_); (case hd => kernel_rfl); (case hok => kernel_rfl))); simp [*]; (repeat' (split; all_goals (rename_i hc; try simp [*])))) | ((with_reducible refine T.ret ?_); refine fin_pure ?_; simp [*]; try (change Hold _)) | (with_reducible refine T.block ?_) | ((with_reducible refine T.skip ?_); simp [*]) | ((with_reducible refine T.exit ?_); simp [*]) | ((with_reducible refine T.br fun K1 K2 hK1 hK2 => ?_); simp [*]; try ((refine Br.intro (fun hc => ?_) (fun hc => ?_)) <;> (try simp at hc))) | (with_reducible refine Cont.go (by assumption) _ ?_) | (with_reducible refine Cnt.go (by assumption) ?_))
    all_goals (unfold Hold at *; rw [hb2])
  · have hb2 : Hold (askE a x t = bothE a t) := by unfold Hold at *; rw [he, if_pos v]
    repeat' (first | (with_reducible refine T.sq fun K hK => ?_) | ((first | ((with_reducible refine T.reg hE ?hd ?_); (case hd => kernel_rfl)) | ((with_reducible refine T.any hE mixed ?hd ?hok ?_); (case hd => kernel_rfl); (case hok => kernel_rfl))); simp [*]; (repeat' (split; all_goals (rename_i hc; try simp [*])))) | ((with_reducible refine T.ret ?_); refine fin_pure ?_; simp [*]; try (change Hold _)) | (with_reducible refine T.block ?_) | ((with_reducible refine T.skip ?_); simp [*]) | ((with_reducible refine T.exit ?_); simp [*]) | ((with_reducible refine T.br fun K1 K2 hK1 hK2 => ?_); simp [*]; try ((refine Br.intro (fun hc => ?_) (fun hc => ?_)) <;> (try simp at hc))) | (with_reducible refine Cont.go (by assumption) _ ?_) | (with_reducible refine Cnt.go (by assumption) ?_))
    all_goals (unfold Hold at *; rw [hb2])

/-! ### Put -/
def putErr (a : Ex) (x : Int) (t : Ex) : Int := if askE a x t ≠ 0 then askE a x t else if ffB t x a = true then rightE (psF (sgF x t) a) else 50
def putX (a : Ex) (x : Int) (t : Ex) : Ex := if putErr a x t = 0 then psF (sgF x t) a else ex0
theorem lk_sg (x : Int) (t : Ex) : lkF [(x, t)] = sgF x t := by
  funext y
  unfold sgF
  show (if x = y then some t else none) = _
  by_cases e : x = y
  · rw [if_pos e, if_pos e.symm]
  · rw [if_neg e, if_neg (fun h => e h.symm)]
@[simp] def gSPut : List V → Option V := f3 kE (kI .i64) kE fun a x t => some (.tup [enc (putX a x t), .int .i64 (putErr a x t)])
/-! ### By the reference -/
def wiV (z : Ex) (room : Int) : V := if (cntE z : Int) ≤ room then .agg [.bool true, .int .i64 z.k, .int .i64 z.i, .sl (encL z.kids) .no, .int .i64 (cntE z : Nat)] else .agg [.bool false, .int .i64 0, .int .i64 0, .sl [] .no, .int .i64 0]
theorem wi_good {z : Ex} {room : Int} (h : (cntE z : Int) ≤ room) : wiV z room = .agg [.bool true, .int .i64 z.k, .int .i64 z.i, .sl (encL z.kids) .no, .int .i64 (cntE z : Nat)] := if_pos h
theorem wi_bad {z : Ex} {room : Int} (h : ¬ (cntE z : Int) ≤ room) : wiV z room = .agg [.bool false, .int .i64 0, .int .i64 0, .sl [] .no, .int .i64 0] := if_neg h
def okWi (a t : Ex) (room : Int) : Prop := allX a = true ∧ allX t = true ∧ cntE a ≤ 1000 ∧ cntE t ≤ 1000 ∧ 0 ≤ room ∧ room ≤ 1000
noncomputable instance (a t : Ex) (room : Int) : Decidable (okWi a t room) := Classical.propDecidable _
@[simp] noncomputable def gWithin : List V → Option V := f4 kE (kI .i64) kE (kI .i64) fun a x t room => if okWi a t room then some (wiV (psF (sgF x t) a) room) else none
theorem cntE_pos (e : Ex) : 1 ≤ cntE e := by rw [cntE_eq]; omega
theorem cntL_psL (f : Int → Option Ex) (l : List Ex) (j : Nat) (h : j < l.length) : cntL (psL f (l.take (j + 1))) = cntL (psL f (l.take j)) + cntE (psF f l[j]) ∧ cntL (psL f (l.take (j + 1))) ≤ cntL (psL f l) := by
  have h2 : j < (psL f l).length := by rw [psL_len]; exact h
  have e : ∀ n, psL f (l.take n) = (psL f l).take n := fun n => by rw [psL_map, psL_map, List.map_take]
  have e3 : (psL f l)[j] = psF f l[j] := by simp [psL_map]
  rw [e, e, ← e3]
  exact ⟨cntL_take _ j h2, cntL_le _ _⟩
set_option maxHeartbeats 4000000 in
theorem ok_rWithin : PureOk Tryd.prog 46 gWithin := by
  refine rec4 fun a ih x t room r hr => ?_
  split at hr
  · rename_i hm
    obtain ⟨ha, ht, hca, hct, hr0, hr1⟩ := hm
    cases hr
    have hca0 := cntE_pos a
    have hsa := small_all ha
    have hst := small_all ht
    have hE := (((((EnvOk.nil (P := Tryd.prog) (eq := fun _ => false) (own := fun _ => false) (mem := fun _ => false) EqOk.none).addf ok_rSize).addf ok_Copy).addf ok_rQuant).addf ih)
    refine ⟨⟨Tryd.f46, Tryd.func46, by decide, rfl⟩, pure_of_T Tryd.func46 rfl (by simp [Tryd.ntmps46]) fun q => ?_⟩
    have hpe := psF_eq (sgF x t) a
    by_cases c0 : room < 1
    · have hn := wi_bad (z := psF (sgF x t) a) (room := room) (by have := cntE_pos (psF (sgF x t) a); omega)
      have hn2 : Hold _ := hn
      clear hn hpe
      repeat' (first | (with_reducible refine T.sq fun K hK => ?_) | ((first | ((with_reducible refine T.reg hE ?hd ?_); (case hd => kernel_rfl)) | ((with_reducible refine T.any hE mixed ?hd ?hok ?_); (case hd => kernel_rfl); (case hok => kernel_rfl))); simp [*]; (repeat' (split; all_goals (rename_i hc; try simp [*])))) | ((with_reducible refine T.ret ?_); refine fin_pure ?_; simp [*]; try (change Hold _)) | (with_reducible refine T.block ?_) | ((with_reducible refine T.skip ?_); simp [*]) | ((with_reducible refine T.exit ?_); simp [*]) | ((with_reducible refine T.br fun K1 K2 hK1 hK2 => ?_); simp [*]; try ((refine Br.intro (fun hc => ?_) (fun hc => ?_)) <;> (try simp at hc))) | (with_reducible refine Cont.go (by assumption) _ ?_) | (with_reducible refine Cnt.go (by assumption) ?_))
      all_goals (unfold Hold at *; rw [hn2])
    by_cases c1 : a.k = 1 ∧ a.i = x
    · obtain ⟨k1, i1⟩ := c1
      have hz : psF (sgF x t) a = t := by rw [hpe, if_pos k1, i1]; unfold sgF; rw [if_pos rfl]; rfl
      rw [hz]
      have hmin : min (nodesN t) 1001 = cntE t := by rw [nodesN_eq]; omega
      by_cases c2 : (cntE t : Int) ≤ room
      · have hn : Hold _ := wi_good c2
        have c2' : ¬ room < (cntE t : Int) := by omega
        clear hpe
        repeat' (first | (with_reducible refine T.sq fun K hK => ?_) | ((first | ((with_reducible refine T.reg hE ?hd ?_); (case hd => kernel_rfl)) | ((with_reducible refine T.any hE mixed ?hd ?hok ?_); (case hd => kernel_rfl); (case hok => kernel_rfl))); simp [*]; (repeat' (split; all_goals (rename_i hc; try simp [*])))) | ((with_reducible refine T.ret ?_); refine fin_pure ?_; simp [*]; try (change Hold _)) | (with_reducible refine T.block ?_) | ((with_reducible refine T.skip ?_); simp [*]) | ((with_reducible refine T.exit ?_); simp [*]) | ((with_reducible refine T.br fun K1 K2 hK1 hK2 => ?_); simp [*]; try ((refine Br.intro (fun hc => ?_) (fun hc => ?_)) <;> (try simp at hc))) | (with_reducible refine Cont.go (by assumption) _ ?_) | (with_reducible refine Cnt.go (by assumption) ?_))
        all_goals (unfold Hold at *; rw [hn])
      · have hn : Hold _ := wi_bad c2
        have c2' : room < (cntE t : Int) := by omega
        clear hpe
        repeat' (first | (with_reducible refine T.sq fun K hK => ?_) | ((first | ((with_reducible refine T.reg hE ?hd ?_); (case hd => kernel_rfl)) | ((with_reducible refine T.any hE mixed ?hd ?hok ?_); (case hd => kernel_rfl); (case hok => kernel_rfl))); simp [*]; (repeat' (split; all_goals (rename_i hc; try simp [*])))) | ((with_reducible refine T.ret ?_); refine fin_pure ?_; simp [*]; try (change Hold _)) | (with_reducible refine T.block ?_) | ((with_reducible refine T.skip ?_); simp [*]) | ((with_reducible refine T.exit ?_); simp [*]) | ((with_reducible refine T.br fun K1 K2 hK1 hK2 => ?_); simp [*]; try ((refine Br.intro (fun hc => ?_) (fun hc => ?_)) <;> (try simp at hc))) | (with_reducible refine Cont.go (by assumption) _ ?_) | (with_reducible refine Cnt.go (by assumption) ?_))
        all_goals (unfold Hold at *; rw [hn])
    by_cases c3 : isQ a = true ∧ a.i = x
    · obtain ⟨q1, i1⟩ := c3
      have q1' : a.k = 7 ∨ a.k = 10 := by simpa [isQ] using q1
      have hk1 : ¬ a.k = 1 := by omega
      have hz : psF (sgF x t) a = a := psF_not ha (by
        cases a with
        | mk k i l =>
          rw [has_node (by simpa using hk1), has_bin (bin_in ha)]
          simp at q1' i1
          simp [q1', i1])
      rw [hz]
      have e1 : Ex.mk a.k x a.kids = a := by rw [← i1, Ex.eta]
      have hmin : min (nodesN a) 1001 = cntE a := by rw [nodesN_eq]; omega
      by_cases c2 : (cntE a : Int) ≤ room
      · have hn : Hold _ := wi_good c2
        have c2' : ¬ room < (cntE a : Int) := by omega
        clear hpe q1'
        repeat' (first | (with_reducible refine T.sq fun K hK => ?_) | ((first | ((with_reducible refine T.reg hE ?hd ?_); (case hd => kernel_rfl)) | ((with_reducible refine T.any hE mixed ?hd ?hok ?_); (case hd => kernel_rfl); (case hok => kernel_rfl))); simp [*]; (repeat' (split; all_goals (rename_i hc; try simp [*])))) | ((with_reducible refine T.ret ?_); refine fin_pure ?_; simp [*]; try (change Hold _)) | (with_reducible refine T.block ?_) | ((with_reducible refine T.skip ?_); simp [*]) | ((with_reducible refine T.exit ?_); simp [*]) | ((with_reducible refine T.br fun K1 K2 hK1 hK2 => ?_); simp [*]; try ((refine Br.intro (fun hc => ?_) (fun hc => ?_)) <;> (try simp at hc))) | (with_reducible refine Cont.go (by assumption) _ ?_) | (with_reducible refine Cnt.go (by assumption) ?_))
        all_goals (unfold Hold at *; rw [hn]; try simp [i1])
      · have hn : Hold _ := wi_bad c2
        have c2' : room < (cntE a : Int) := by omega
        clear hpe q1'
        repeat' (first | (with_reducible refine T.sq fun K hK => ?_) | ((first | ((with_reducible refine T.reg hE ?hd ?_); (case hd => kernel_rfl)) | ((with_reducible refine T.any hE mixed ?hd ?hok ?_); (case hd => kernel_rfl); (case hok => kernel_rfl))); simp [*]; (repeat' (split; all_goals (rename_i hc; try simp [*])))) | ((with_reducible refine T.ret ?_); refine fin_pure ?_; simp [*]; try (change Hold _)) | (with_reducible refine T.block ?_) | ((with_reducible refine T.skip ?_); simp [*]) | ((with_reducible refine T.exit ?_); simp [*]) | ((with_reducible refine T.br fun K1 K2 hK1 hK2 => ?_); simp [*]; try ((refine Br.intro (fun hc => ?_) (fun hc => ?_)) <;> (try simp at hc))) | (with_reducible refine Cont.go (by assumption) _ ?_) | (with_reducible refine Cnt.go (by assumption) ?_))
        all_goals (unfold Hold at *; rw [hn]; try simp [i1])
    have hqf : ¬ a.k = 1 → quF a.k a.i (sgF x t) = sgF x t := fun _ => quF_sg (fun h => c3 ⟨by simpa [isQ] using h.1, h.2⟩)
    have hz : psF (sgF x t) a = .mk a.k a.i (psL (sgF x t) a.kids) := by
      rw [hpe]
      by_cases k1 : a.k = 1
      · rw [if_pos k1]
        have hl : a.kids = [] := by cases a with | mk k i m => exact kids_none ha k1
        unfold sgF
        rw [if_neg (fun e => c1 ⟨k1, e⟩), hl, psL, ← hl]; simp
      · rw [if_neg k1, hqf k1, psL_map]
    have hcz : cntE (psF (sgF x t) a) = cntL (psL (sgF x t) a.kids) + 1 := by rw [hz, cntE_eq]; rfl
    have hk4 := kids_four ha
    clear hqf hpe
    refine T.sq fun K0 hK0 => ?_
    refine T.reg hE rfl ?_
    simp
    refine hK0.go _ ?_
    clear hK0
    refine T.sq fun K hK => ?_
    obtain ⟨hgo⟩ := hK
    repeat' (first | (with_reducible refine T.sq fun K hK => ?_) | ((first | ((with_reducible refine T.reg hE ?hd ?_); (case hd => kernel_rfl)) | ((with_reducible refine T.any hE mixed ?hd ?hok ?_); (case hd => kernel_rfl); (case hok => kernel_rfl))); simp [*]; (repeat' (split; all_goals (rename_i hc; try simp [*])))) | ((with_reducible refine T.ret ?_); refine fin_pure ?_; simp [*]; try (change Hold _)) | (with_reducible refine T.block ?_) | ((with_reducible refine T.skip ?_); simp [*]) | ((with_reducible refine T.exit ?_); simp [*]) | ((with_reducible refine T.br fun K1 K2 hK1 hK2 => ?_); simp [*]; try ((refine Br.intro (fun hc => ?_) (fun hc => ?_)) <;> (try simp at hc))) | (with_reducible refine Cont.go (by assumption) _ ?_) | (with_reducible refine Cnt.go (by assumption) ?_))
    refine hgo _ ?_
    clear hgo
    refine T.sq fun K1 hK1 => ?_
    obtain ⟨h1⟩ := hK1
    suffices j1 : ∀ σ : St, (σ.get 1 = .int .i64 x ∧ σ.get 3 = .int .i64 room ∧ σ.get 4 = .ptr (0 :: 6 :: q) 0 ∧ σ.M (0 :: 6 :: q) = some (.cells (encC a)) ∧ σ.get 6 = .ptr (0 :: 8 :: q) 0 ∧ σ.M (0 :: 8 :: q) = some (.cells (encC t)) ∧ σ.get 8 = .ptr (0 :: 10 :: q) 0 ∧ (∃ c0 c1 c2 c3 c4, σ.M (0 :: 10 :: q) = some (.cells [c0, c1, c2, c3, c4])) ∧ σ.cnt 13 = 0) → K1 σ by
      clear h1
      by_cases k1 : a.k = 1
      · have i1 : ¬ a.i = x := fun e => c1 ⟨k1, e⟩
        repeat' (first | (with_reducible refine T.sq fun K hK => ?_) | ((first | ((with_reducible refine T.reg hE ?hd ?_); (case hd => kernel_rfl)) | ((with_reducible refine T.any hE mixed ?hd ?hok ?_); (case hd => kernel_rfl); (case hok => kernel_rfl))); simp [*]; (repeat' (split; all_goals (rename_i hc; try simp [*])))) | ((with_reducible refine T.ret ?_); refine fin_pure ?_; simp [*]; try (change Hold _)) | (with_reducible refine T.block ?_) | ((with_reducible refine T.skip ?_); simp [*]) | ((with_reducible refine T.exit ?_); simp [*]) | ((with_reducible refine T.br fun K1 K2 hK1 hK2 => ?_); simp [*]; try ((refine Br.intro (fun hc => ?_) (fun hc => ?_)) <;> (try simp at hc))) | (with_reducible refine Cont.go (by assumption) _ ?_) | (with_reducible refine Cnt.go (by assumption) ?_))
        all_goals (refine j1 _ ⟨?_, ?_, ?_, ?_, ?_, ?_, ?_, ?_, ?_⟩ <;> simp [*, encC_eq])
      · repeat' (first | (with_reducible refine T.sq fun K hK => ?_) | ((first | ((with_reducible refine T.reg hE ?hd ?_); (case hd => kernel_rfl)) | ((with_reducible refine T.any hE mixed ?hd ?hok ?_); (case hd => kernel_rfl); (case hok => kernel_rfl))); simp [*]; (repeat' (split; all_goals (rename_i hc; try simp [*])))) | ((with_reducible refine T.ret ?_); refine fin_pure ?_; simp [*]; try (change Hold _)) | (with_reducible refine T.block ?_) | ((with_reducible refine T.skip ?_); simp [*]) | ((with_reducible refine T.exit ?_); simp [*]) | ((with_reducible refine T.br fun K1 K2 hK1 hK2 => ?_); simp [*]; try ((refine Br.intro (fun hc => ?_) (fun hc => ?_)) <;> (try simp at hc))) | (with_reducible refine Cont.go (by assumption) _ ?_) | (with_reducible refine Cnt.go (by assumption) ?_))
        all_goals (refine j1 _ ⟨?_, ?_, ?_, ?_, ?_, ?_, ?_, ?_, ?_⟩ <;> simp [*, encC_eq])
    rintro σ ⟨b1, b3, b4, m4, b6, m6, b8, ⟨c0, c1', c2, c3', c4, m8⟩, b9⟩
    refine h1 σ ?_
    clear h1
    rw [encC_eq] at m4 m6
    refine T.sq fun K2 hK2 => ?_
    obtain ⟨h2⟩ := hK2
    suffices j2 : ∀ σ : St, (σ.get 1 = .int .i64 x ∧ σ.get 3 = .int .i64 room ∧ σ.get 4 = .ptr (0 :: 6 :: q) 0 ∧ σ.M (0 :: 6 :: q) = some (.cells (encC a)) ∧ σ.get 6 = .ptr (0 :: 8 :: q) 0 ∧ σ.M (0 :: 8 :: q) = some (.cells (encC t)) ∧ σ.get 8 = .ptr (0 :: 10 :: q) 0 ∧ (∃ c0 c1 c2 c3 c4, σ.M (0 :: 10 :: q) = some (.cells [c0, c1, c2, c3, c4])) ∧ σ.cnt 13 = 0) → K2 σ by
      clear h2
      by_cases k1 : isQ a = true
      · have i1 : ¬ a.i = x := fun e => c3 ⟨k1, e⟩
        repeat' (first | (with_reducible refine T.sq fun K hK => ?_) | ((first | ((with_reducible refine T.reg hE ?hd ?_); (case hd => kernel_rfl)) | ((with_reducible refine T.any hE mixed ?hd ?hok ?_); (case hd => kernel_rfl); (case hok => kernel_rfl))); simp [*]; (repeat' (split; all_goals (rename_i hc; try simp [*])))) | ((with_reducible refine T.ret ?_); refine fin_pure ?_; simp [*]; try (change Hold _)) | (with_reducible refine T.block ?_) | ((with_reducible refine T.skip ?_); simp [*]) | ((with_reducible refine T.exit ?_); simp [*]) | ((with_reducible refine T.br fun K1 K2 hK1 hK2 => ?_); simp [*]; try ((refine Br.intro (fun hc => ?_) (fun hc => ?_)) <;> (try simp at hc))) | (with_reducible refine Cont.go (by assumption) _ ?_) | (with_reducible refine Cnt.go (by assumption) ?_))
        all_goals (refine j2 _ ⟨?_, ?_, ?_, ?_, ?_, ?_, ?_, ?_, ?_⟩ <;> simp [*, encC_eq])
      · rw [Bool.not_eq_true] at k1
        repeat' (first | (with_reducible refine T.sq fun K hK => ?_) | ((first | ((with_reducible refine T.reg hE ?hd ?_); (case hd => kernel_rfl)) | ((with_reducible refine T.any hE mixed ?hd ?hok ?_); (case hd => kernel_rfl); (case hok => kernel_rfl))); simp [*]; (repeat' (split; all_goals (rename_i hc; try simp [*])))) | ((with_reducible refine T.ret ?_); refine fin_pure ?_; simp [*]; try (change Hold _)) | (with_reducible refine T.block ?_) | ((with_reducible refine T.skip ?_); simp [*]) | ((with_reducible refine T.exit ?_); simp [*]) | ((with_reducible refine T.br fun K1 K2 hK1 hK2 => ?_); simp [*]; try ((refine Br.intro (fun hc => ?_) (fun hc => ?_)) <;> (try simp at hc))) | (with_reducible refine Cont.go (by assumption) _ ?_) | (with_reducible refine Cnt.go (by assumption) ?_))
        all_goals (refine j2 _ ⟨?_, ?_, ?_, ?_, ?_, ?_, ?_, ?_, ?_⟩ <;> simp [*, encC_eq])
    clear b1 b3 b4 m4 b6 m6 b8 m8 b9
    rintro σ ⟨b1, b3, b4, m4, b6, m6, b8, ⟨c0, c1', c2, c3', c4, m8⟩, b9⟩
    refine h2 σ ?_
    clear h2
    rw [encC_eq] at m4 m6
    have hz2 : Hold (psF (sgF x t) a = .mk a.k a.i (psL (sgF x t) a.kids)) := hz
    have hcz2 : Hold (cntE (psF (sgF x t) a) = cntL (psL (sgF x t) a.kids) + 1) := hcz
    clear hz hcz
    repeat' (first | (with_reducible refine T.sq fun K hK => ?_) | ((first | ((with_reducible refine T.reg hE ?hd ?_); (case hd => kernel_rfl)) | ((with_reducible refine T.any hE mixed ?hd ?hok ?_); (case hd => kernel_rfl); (case hok => kernel_rfl))); simp [*]; (repeat' (split; all_goals (rename_i hc; try simp [*])))) | ((with_reducible refine T.ret ?_); refine fin_pure ?_; simp [*]; try (change Hold _)) | (with_reducible refine T.block ?_) | ((with_reducible refine T.skip ?_); simp [*]) | ((with_reducible refine T.exit ?_); simp [*]) | ((with_reducible refine T.br fun K1 K2 hK1 hK2 => ?_); simp [*]; try ((refine Br.intro (fun hc => ?_) (fun hc => ?_)) <;> (try simp at hc))) | (with_reducible refine Cont.go (by assumption) _ ?_) | (with_reducible refine Cnt.go (by assumption) ?_))
    refine T.loop (fun z σ => ∃ (j n : Nat) (w : V), z = a.kids.length - j ∧ σ.get 1 = .int .i64 x ∧ σ.get 3 = .int .i64 room ∧ σ.get 4 = .ptr (0 :: 6 :: q) 0 ∧ σ.M (0 :: 6 :: q) = some (.cells (encC a)) ∧ σ.get 6 = .ptr (0 :: 8 :: q) 0 ∧ σ.M (0 :: 8 :: q) = some (.cells (encC t)) ∧ σ.get 8 = .ptr (0 :: 10 :: q) 0 ∧ (∃ c0 c1 c2 c3 c4, σ.M (0 :: 10 :: q) = some (.cells [c0, c1, c2, c3, c4])) ∧ σ.get 11 = .ptr (0 :: 13 :: q) 0 ∧ σ.M (0 :: 13 :: q) = some (.cells [.int .i64 a.k, .int .i64 a.i, w]) ∧ σ.get 12 = .int .i64 (n : Nat) ∧ σ.get 62 = .sl (encL a.kids) .no ∧ σ.get 63 = .int .i64 a.kids.length ∧ σ.get 64 = .int .i64 j ∧ j ≤ a.kids.length ∧ Hold (n = 1 + cntL (psL (sgF x t) (a.kids.take j)) ∧ (n : Int) ≤ room) ∧ Hold ((j = 0 ∧ w = .nils) ∨ (0 < j ∧ ∃ id, w = .sl (encL (psL (sgF x t) (a.kids.take j))) (.own id 3) ∧ σ.K id = true))) a.kids.length ⟨0, 1, .nils, by simp, by simp [*], by simp [*], by simp [*], by simp [*, encC_eq], by simp [*], by simp [*, encC_eq], by simp [*], ⟨c0, c1', c2, c3', c4, by simp [*]⟩, by simp [*], by simp [*], by simp [*], by simp [*], by simp [*], by simp [*], by omega, ⟨by simp [psL, cntL], by omega⟩, .inl ⟨rfl, rfl⟩⟩ ?_
    clear b1 b3 b4 m4 b6 m6 b8 m8 b9
    rintro z σ ⟨j, n, w, rfl, b1, b3, b4, m4, b6, m6, b8, ⟨c0, c1', c2, c3', c4, m8⟩, b11, m11, b12, g1, g2, g3, g4, ⟨g5, g6⟩, g7⟩
    rw [encC_eq] at m4 m6
    by_cases hj : j < a.kids.length
    · have hw : IntKind.i64.wrap ((j : Int) + 1) = (j : Int) + 1 := wrap64 (by omega) (by omega)
      have hw1 : IntKind.i64.wrap 1 = 1 := wrap64 (by omega) (by omega)
      have hs2 := ex_kid_lt a j hj
      have hwr : IntKind.i64.wrap (room - (n : Int)) = room - n := wrap64 (by omega) (by omega)
      have hck := cntE_kid (e := a) j hj
      have hok : okWi a.kids[j] t (room - (n : Int)) := ⟨allX_kid ha j hj, ht, by omega, hct, by omega, by omega⟩
      obtain ⟨hp1, hp2⟩ := cntL_psL (sgF x t) a.kids j hj
      by_cases c5 : (cntE (psF (sgF x t) a.kids[j]) : Int) ≤ room - n
      · have hwi := wi_good c5
        have hwn : IntKind.i64.wrap ((n : Int) + (cntE (psF (sgF x t) a.kids[j]) : Nat)) = ((n + cntE (psF (sgF x t) a.kids[j]) : Nat) : Int) := by rw [wrap64 (by omega) (by omega)]; omega
        have hn2 : Hold (n + cntE (psF (sgF x t) a.kids[j]) = 1 + cntL (psL (sgF x t) (a.kids.take (j + 1))) ∧ ((n + cntE (psF (sgF x t) a.kids[j]) : Nat) : Int) ≤ room) := ⟨by omega, by omega⟩
        have ht := psL_take (sgF x t) a.kids j hj
        have ht2 : Hold (encL (psL (sgF x t) (a.kids.take (j + 1))) = encL (psL (sgF x t) (a.kids.take j)) ++ [[.int .i64 (psF (sgF x t) a.kids[j]).k, .int .i64 (psF (sgF x t) a.kids[j]).i, .sl (encL (psF (sgF x t) a.kids[j]).kids) .no]]) := by unfold Hold; rw [ht, encL_snoc]
        have hl2 : (psL (sgF x t) (a.kids.take j)).length = j := by rw [psL_len, List.length_take]; omega
        have u1 : (j + 1) * 40 ≤ 140737488355328 := by omega
        clear ht hp1 hp2 g5 g6 hck
        generalize hNN : n + cntE (psF (sgF x t) a.kids[j]) = NN at *
        rcases g7 with ⟨rfl, rfl⟩ | ⟨hj0, id, rfl, hK⟩
        · have ht3 : Hold (encL (psL (sgF x t) (a.kids.take (0 + 1))) = [[.int .i64 (psF (sgF x t) a.kids[0]).k, .int .i64 (psF (sgF x t) a.kids[0]).i, .sl (encL (psF (sgF x t) a.kids[0]).kids) .no]]) := by
            unfold Hold at *; rw [ht2, List.take_zero, psL, encL_nil, List.nil_append]
          clear ht2 hNN
          repeat' (first | (with_reducible refine T.sq fun K hK => ?_) | ((first | ((with_reducible refine T.reg hE ?hd ?_); (case hd => kernel_rfl)) | ((with_reducible refine T.any hE mixed ?hd ?hok ?_); (case hd => kernel_rfl); (case hok => kernel_rfl))); simp [*]; (repeat' (split; all_goals (rename_i hc; try simp [*])))) | ((with_reducible refine T.ret ?_); refine fin_pure ?_; simp [*]; try (change Hold _)) | (with_reducible refine T.block ?_) | ((with_reducible refine T.skip ?_); simp [*]) | ((with_reducible refine T.exit ?_); simp [*]) | ((with_reducible refine T.br fun K1 K2 hK1 hK2 => ?_); simp [*]; try ((refine Br.intro (fun hc => ?_) (fun hc => ?_)) <;> (try simp at hc))) | (with_reducible refine Cont.go (by assumption) _ ?_) | (with_reducible refine Cnt.go (by assumption) ?_))
          unfold Hold at *
          exact ⟨a.kids.length - 1, by omega, 1, rfl, by simp [encC_eq], by simp [encC_eq], NN, rfl, by omega, by omega, hn2, by omega, _, ⟨ht3.symm, rfl⟩, .inl rfl⟩
        · have hl3 : (∀ el : List V, el ∈ encL (psL (sgF x t) (a.kids.take j)) → el.length = 3) = True := eq_true (encL_len3 _)
          clear hNN
          repeat' (first | (with_reducible refine T.sq fun K hK => ?_) | ((first | ((with_reducible refine T.reg hE ?hd ?_); (case hd => kernel_rfl)) | ((with_reducible refine T.any hE mixed ?hd ?hok ?_); (case hd => kernel_rfl); (case hok => kernel_rfl))); simp [*]; (repeat' (split; all_goals (rename_i hc; try simp [*])))) | ((with_reducible refine T.ret ?_); refine fin_pure ?_; simp [*]; try (change Hold _)) | (with_reducible refine T.block ?_) | ((with_reducible refine T.skip ?_); simp [*]) | ((with_reducible refine T.exit ?_); simp [*]) | ((with_reducible refine T.br fun K1 K2 hK1 hK2 => ?_); simp [*]; try ((refine Br.intro (fun hc => ?_) (fun hc => ?_)) <;> (try simp at hc))) | (with_reducible refine Cont.go (by assumption) _ ?_) | (with_reducible refine Cnt.go (by assumption) ?_))
          unfold Hold at *
          exact ⟨a.kids.length - (j + 1), by omega, j + 1, rfl, by simp [encC_eq], by simp [encC_eq], NN, rfl, by omega, by omega, hn2, by omega, _, ⟨ht2.symm, rfl⟩, .inl rfl⟩
      · have hwi := wi_bad c5
        have hn : Hold (wiV (psF (sgF x t) a) room = _) := wi_bad (by unfold Hold at hcz2; rw [hcz2]; omega)
        clear hp1 hp2 g5 g6 hck
        repeat' (first | (with_reducible refine T.sq fun K hK => ?_) | ((first | ((with_reducible refine T.reg hE ?hd ?_); (case hd => kernel_rfl)) | ((with_reducible refine T.any hE mixed ?hd ?hok ?_); (case hd => kernel_rfl); (case hok => kernel_rfl))); simp [*]; (repeat' (split; all_goals (rename_i hc; try simp [*])))) | ((with_reducible refine T.ret ?_); refine fin_pure ?_; simp [*]; try (change Hold _)) | (with_reducible refine T.block ?_) | ((with_reducible refine T.skip ?_); simp [*]) | ((with_reducible refine T.exit ?_); simp [*]) | ((with_reducible refine T.br fun K1 K2 hK1 hK2 => ?_); simp [*]; try ((refine Br.intro (fun hc => ?_) (fun hc => ?_)) <;> (try simp at hc))) | (with_reducible refine Cont.go (by assumption) _ ?_) | (with_reducible refine Cnt.go (by assumption) ?_))
        all_goals (unfold Hold at *; rw [hn])
    · have w8 : j = a.kids.length := by omega
      subst w8
      rw [List.take_length] at g5
      have hcn : Hold (wiV (psF (sgF x t) a) room = .agg [.bool true, .int .i64 a.k, .int .i64 a.i, .sl (encL (psL (sgF x t) a.kids)) .no, .int .i64 (n : Nat)]) := by
        unfold Hold at *
        rw [wi_good (by rw [hcz2]; omega), hcz2, hz2]
        simp; omega
      clear g5 g6 hcz2 hz2
      rcases g7 with ⟨h0, rfl⟩ | ⟨hj0, id, rfl, hK⟩
      · have hn : a.kids = [] := List.eq_nil_of_length_eq_zero h0
        have hcn2 : Hold (wiV (psF (sgF x t) a) room = .agg [.bool true, .int .i64 a.k, .int .i64 a.i, .sl [] .no, .int .i64 (n : Nat)]) := by unfold Hold at *; rw [hcn, hn, psL]; rfl
        clear hcn
        repeat' (first | (with_reducible refine T.sq fun K hK => ?_) | ((first | ((with_reducible refine T.reg hE ?hd ?_); (case hd => kernel_rfl)) | ((with_reducible refine T.any hE mixed ?hd ?hok ?_); (case hd => kernel_rfl); (case hok => kernel_rfl))); simp [*]; (repeat' (split; all_goals (rename_i hc; try simp [*])))) | ((with_reducible refine T.ret ?_); refine fin_pure ?_; simp [*]; try (change Hold _)) | (with_reducible refine T.block ?_) | ((with_reducible refine T.skip ?_); simp [*]) | ((with_reducible refine T.exit ?_); simp [*]) | ((with_reducible refine T.br fun K1 K2 hK1 hK2 => ?_); simp [*]; try ((refine Br.intro (fun hc => ?_) (fun hc => ?_)) <;> (try simp at hc))) | (with_reducible refine Cont.go (by assumption) _ ?_) | (with_reducible refine Cnt.go (by assumption) ?_))
        all_goals (unfold Hold at *; rw [hcn2])
      · rw [List.take_length] at m11
        repeat' (first | (with_reducible refine T.sq fun K hK => ?_) | ((first | ((with_reducible refine T.reg hE ?hd ?_); (case hd => kernel_rfl)) | ((with_reducible refine T.any hE mixed ?hd ?hok ?_); (case hd => kernel_rfl); (case hok => kernel_rfl))); simp [*]; (repeat' (split; all_goals (rename_i hc; try simp [*])))) | ((with_reducible refine T.ret ?_); refine fin_pure ?_; simp [*]; try (change Hold _)) | (with_reducible refine T.block ?_) | ((with_reducible refine T.skip ?_); simp [*]) | ((with_reducible refine T.exit ?_); simp [*]) | ((with_reducible refine T.br fun K1 K2 hK1 hK2 => ?_); simp [*]; try ((refine Br.intro (fun hc => ?_) (fun hc => ?_)) <;> (try simp at hc))) | (with_reducible refine Cont.go (by assumption) _ ?_) | (with_reducible refine Cnt.go (by assumption) ?_))
        all_goals (unfold Hold at *; rw [hcn])
  · cases hr
@[simp] noncomputable def gLimited : List V → Option V := fun args => match args with
  | [.agg [.bool ok, .int .i64 k, .int .i64 i, .sl els .no, .int .i64 n]] => (dec (.agg [.int .i64 k, .int .i64 i, .sl els .no])).bind fun z => some (if ok = true then frV z else .tup [enc ex0, .int .i64 20])
  | _ => none
theorem ok_rLimited : PureOk Tryd.prog 45 gLimited := by
  intro args r h
  simp only [gLimited] at h
  split at h
  · rename_i ok k i els n
    obtain ⟨z, hz, h2⟩ := Option.bind_eq_some_iff.1 h
    clear h
    cases h2
    have hz := dec_inv hz
    rw [enc_eq] at hz
    injection hz with hz
    simp only [List.cons.injEq, and_true] at hz
    obtain ⟨hz1, hz2, hz3⟩ := hz
    injection hz1 with _ hz1
    injection hz2 with _ hz2
    injection hz3 with hz3 _
    subst hz1 hz2 hz3
    have hE := ((EnvOk.nil (P := Tryd.prog) (eq := fun _ => false) (own := fun _ => false) (mem := fun _ => false) EqOk.none).addf ok_rRight)
    refine ⟨⟨Tryd.f45, Tryd.func45, by decide, rfl⟩, pure_of_T Tryd.func45 rfl (by simp [Tryd.ntmps45]) fun q => ?_⟩
    cases ok with
    | false =>
      repeat' (first | (with_reducible refine T.sq fun K hK => ?_) | ((first | ((with_reducible refine T.reg hE ?hd ?_); (case hd => kernel_rfl)) | ((with_reducible refine T.any hE mixed ?hd ?hok ?_); (case hd => kernel_rfl); (case hok => kernel_rfl))); simp [*]; (repeat' (split; all_goals (rename_i hc; try simp [*])))) | ((with_reducible refine T.ret ?_); refine fin_pure ?_; simp [*]; try (change Hold _)) | (with_reducible refine T.block ?_) | ((with_reducible refine T.skip ?_); simp [*]) | ((with_reducible refine T.exit ?_); simp [*]) | ((with_reducible refine T.br fun K1 K2 hK1 hK2 => ?_); simp [*]; try ((refine Br.intro (fun hc => ?_) (fun hc => ?_)) <;> (try simp at hc))) | (with_reducible refine Cont.go (by assumption) _ ?_) | (with_reducible refine Cnt.go (by assumption) ?_))
      all_goals (unfold Hold; first | rfl | (simp [ex0]; done))
    | true =>
      by_cases v : rightE z = 0
      · have hv : Hold _ := frV_good v
        repeat' (first | (with_reducible refine T.sq fun K hK => ?_) | ((first | ((with_reducible refine T.reg hE ?hd ?_); (case hd => kernel_rfl)) | ((with_reducible refine T.any hE mixed ?hd ?hok ?_); (case hd => kernel_rfl); (case hok => kernel_rfl))); simp [*]; (repeat' (split; all_goals (rename_i hc; try simp [*])))) | ((with_reducible refine T.ret ?_); refine fin_pure ?_; simp [*]; try (change Hold _)) | (with_reducible refine T.block ?_) | ((with_reducible refine T.skip ?_); simp [*]) | ((with_reducible refine T.exit ?_); simp [*]) | ((with_reducible refine T.br fun K1 K2 hK1 hK2 => ?_); simp [*]; try ((refine Br.intro (fun hc => ?_) (fun hc => ?_)) <;> (try simp at hc))) | (with_reducible refine Cont.go (by assumption) _ ?_) | (with_reducible refine Cnt.go (by assumption) ?_))
        all_goals (unfold Hold at *; first | (rw [if_pos rfl, hv]; simp; done) | (rw [hv]; simp; done))
      · have hv : Hold _ := frV_bad rfl v
        repeat' (first | (with_reducible refine T.sq fun K hK => ?_) | ((first | ((with_reducible refine T.reg hE ?hd ?_); (case hd => kernel_rfl)) | ((with_reducible refine T.any hE mixed ?hd ?hok ?_); (case hd => kernel_rfl); (case hok => kernel_rfl))); simp [*]; (repeat' (split; all_goals (rename_i hc; try simp [*])))) | ((with_reducible refine T.ret ?_); refine fin_pure ?_; simp [*]; try (change Hold _)) | (with_reducible refine T.block ?_) | ((with_reducible refine T.skip ?_); simp [*]) | ((with_reducible refine T.exit ?_); simp [*]) | ((with_reducible refine T.br fun K1 K2 hK1 hK2 => ?_); simp [*]; try ((refine Br.intro (fun hc => ?_) (fun hc => ?_)) <;> (try simp at hc))) | (with_reducible refine Cont.go (by assumption) _ ?_) | (with_reducible refine Cnt.go (by assumption) ?_))
        all_goals (unfold Hold at *; first | (rw [if_pos rfl, hv]; simp [ex0]; done) | (rw [hv]; simp [ex0]; done))
  · cases h
end Go.Proofs.YtaacfmakfkaddaaDoor.Ax
