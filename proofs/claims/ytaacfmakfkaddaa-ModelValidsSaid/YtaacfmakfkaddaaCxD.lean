/- Contracts: closed formulas; FreeCloses, walked. -/
import Derived.Test.YtaacfmakfkaddaaCxC
import Derived.Test.YtaacfmakfkaddaaBxZ
set_option linter.unusedVariables false
set_option linter.unusedSimpArgs false
namespace Go.Proofs.Ytaacfmakfkaddaa.Ax
open Go Go.Proofs

/-- The numbers of a set below a bound, rising. -/
def upL (s : Nat) : Nat → List Int
  | 0 => []
  | j + 1 => if s.testBit j = true then upL s j ++ [(j : Int)] else upL s j
theorem upL_len (s : Nat) : ∀ j, (upL s j).length ≤ j
  | 0 => by simp [upL]
  | j + 1 => by
    have := upL_len s j
    rw [upL]; split
    · simp; omega
    · omega
/-- All numbers of a set, from 63 down, generalised. -/
def dnE (s : Nat) (a : Ex) : Nat → Ex
  | 0 => a
  | j + 1 => if s.testBit (63 - j) = true then allQ ((63 - j : Nat) : Int) (dnE s a j) else dnE s a j
def shrN (s j : Nat) : Nat := s / 2 ^ j
theorem shr_eq {s j : Nat} (h : j < 64) : ((s : Nat) : Int).fdiv (2 ^ min j IntKind.u64.bits) = ((shrN s j : Nat) : Int) := by
  have e : min j IntKind.u64.bits = j := Nat.min_eq_left (by simp [IntKind.bits]; omega)
  rw [e, Int.fdiv_eq_ediv_of_nonneg _ (Int.le_of_lt (Int.pow_pos (by decide)))]
  unfold shrN; simp
theorem shr_one {s j : Nat} (hs : s < 18446744073709551616) : bits .and .u64 ((shrN s j : Nat) : Int) 1 = if s.testBit j = true then 1 else 0 := by
  have hl : shrN s j < 18446744073709551616 := Nat.lt_of_le_of_lt (Nat.div_le_self _ _) hs
  have := bits_and (k := .u64) rfl (a := shrN s j) (b := 1) (by simpa [IntKind.bits] using hl) (by simp [IntKind.bits])
  rw [show ((1 : Nat) : Int) = 1 from rfl] at this
  rw [this, Nat.and_one_is_mod, Nat.testBit_eq_decide_div_mod_eq]
  unfold shrN
  by_cases h : s / 2 ^ j % 2 = 1
  · simp [h]
  · have : s / 2 ^ j % 2 = 0 := by omega
    simp [this]
def listV (s : Nat) : V := .sl (encI .i64 (upL s 64)) .no
@[simp] noncomputable def gList : List V → Option V := f1 (kI .u64) fun s => if isU64 s then some (listV s.toNat) else none
set_option maxHeartbeats 1000000 in
theorem ok_wList : PureOk Try.prog 17 gList := by
  intro args r h
  obtain ⟨s, rfl, hr⟩ := f1_inv h; clear h
  split at hr
  · rename_i hn
    cases hr
    obtain ⟨s, rfl, hb⟩ := u64_of hn
    have hE := (EnvOk.nil (P := Try.prog) (eq := fun _ => false) (own := fun _ => false) (mem := fun _ => false) EqOk.none)
    refine ⟨⟨Try.f17, Try.func17, by decide, rfl⟩, pure_of_T Try.func17 rfl (by simp [Try.ntmps17]) fun q => ?_⟩
    repeat' (first | (with_reducible refine T.sq fun K hK => ?_) | ((first | ((with_reducible refine T.reg hE ?hd ?_); (case hd => kernel_rfl)) | ((with_reducible refine T.any hE mixed ?hd ?hok ?_); (case hd => kernel_rfl); (case hok => kernel_rfl))); simp [*]; (repeat' (split; all_goals (rename_i hc; try simp [*])))) | ((with_reducible refine T.ret ?_); refine fin_pure ?_; simp [*]; try (change Hold _)) | (with_reducible refine T.block ?_) | ((with_reducible refine T.skip ?_); simp [*]) | ((with_reducible refine T.exit ?_); simp [*]) | ((with_reducible refine T.br fun K1 K2 hK1 hK2 => ?_); simp [*]; try ((refine Br.intro (fun hc => ?_) (fun hc => ?_)) <;> (try simp at hc))) | (with_reducible refine Cont.go (by assumption) _ ?_) | (with_reducible refine Cnt.go (by assumption) ?_))
    refine T.loop (fun n σ => ∃ (j : Nat) (x : V), n = 64 - j ∧ σ.get 0 = .int .u64 (s : Nat) ∧ σ.get 5 = .int .i64 j ∧ σ.get 3 = x ∧ j ≤ 64 ∧ Hold ((upL s j = [] ∧ x = .nils) ∨ (upL s j ≠ [] ∧ ∃ c d, x = .sl (encI .i64 (upL s j)) (.own (c :: d :: q) 1) ∧ σ.K (c :: d :: q) = true))) 64 ⟨0, .nils, by simp, by simp, by simp, by simp, by omega, .inl ⟨rfl, rfl⟩⟩ ?_
    rintro n σ ⟨j, x, rfl, g0, g1, g2, g3, g4⟩
    by_cases hj : j < 64
    · have hw : IntKind.i64.wrap ((j : Int) + 1) = (j : Int) + 1 := wrap64 (by omega) (by omega)
      have hs0 : IntKind.u64.wrap (j : Int) = j := wrap64u (by omega)
      have h1 := shr_eq (s := s) hj
      have h2 := shr_one (j := j) hb
      have hlen := upL_len s j
      have hji : (j : Int) < 64 := by omega
      have hcap : ((upL s j).length + 1) * 8 ≤ 140737488355328 := by omega
      have hu : Hold (upL s (j + 1) = _) := upL.eq_2 s j
      by_cases c : s.testBit j = true
      · rw [if_pos c] at h2
        have hu2 : Hold (upL s (j + 1) = upL s j ++ [(j : Int)]) := by unfold Hold at *; rw [hu, if_pos c]
        clear hu
        rcases g4 with ⟨g5, rfl⟩ | ⟨g5, cc, d, rfl, g6⟩
        · have hn1 : Hold (upL s (j + 1) = [(j : Int)]) := by unfold Hold at *; rw [hu2, g5]; rfl
          clear hu2 g5
          repeat' (first | (with_reducible refine T.sq fun K hK => ?_) | ((first | ((with_reducible refine T.reg hE ?hd ?_); (case hd => kernel_rfl)) | ((with_reducible refine T.any hE mixed ?hd ?hok ?_); (case hd => kernel_rfl); (case hok => kernel_rfl))); simp [*]; (repeat' (split; all_goals (rename_i hc; try simp [*])))) | ((with_reducible refine T.ret ?_); refine fin_pure ?_; simp [*]; try (change Hold _)) | (with_reducible refine T.block ?_) | ((with_reducible refine T.skip ?_); simp [*]) | ((with_reducible refine T.exit ?_); simp [*]) | ((with_reducible refine T.br fun K1 K2 hK1 hK2 => ?_); simp [*]; try ((refine Br.intro (fun hc => ?_) (fun hc => ?_)) <;> (try simp at hc))) | (with_reducible refine Cont.go (by assumption) _ ?_) | (with_reducible refine Cnt.go (by assumption) ?_))
          refine ⟨64 - (j + 1), by omega, j + 1, rfl, by omega, by omega, ?_⟩
          unfold Hold at *
          rw [hn1]
          exact ⟨by simp, _, _, ⟨rfl, rfl, rfl⟩, .inl ⟨rfl, rfl⟩⟩
        · repeat' (first | (with_reducible refine T.sq fun K hK => ?_) | ((first | ((with_reducible refine T.reg hE ?hd ?_); (case hd => kernel_rfl)) | ((with_reducible refine T.any hE mixed ?hd ?hok ?_); (case hd => kernel_rfl); (case hok => kernel_rfl))); simp [*]; (repeat' (split; all_goals (rename_i hc; try simp [*])))) | ((with_reducible refine T.ret ?_); refine fin_pure ?_; simp [*]; try (change Hold _)) | (with_reducible refine T.block ?_) | ((with_reducible refine T.skip ?_); simp [*]) | ((with_reducible refine T.exit ?_); simp [*]) | ((with_reducible refine T.br fun K1 K2 hK1 hK2 => ?_); simp [*]; try ((refine Br.intro (fun hc => ?_) (fun hc => ?_)) <;> (try simp at hc))) | (with_reducible refine Cont.go (by assumption) _ ?_) | (with_reducible refine Cnt.go (by assumption) ?_))
          refine ⟨64 - (j + 1), by omega, j + 1, rfl, by omega, by omega, ?_⟩
          unfold Hold at *
          rw [hu2]
          exact ⟨by simp, _, _, ⟨encI_snoc _ _ _, rfl, rfl⟩, .inl ⟨rfl, rfl⟩⟩
      · rw [if_neg c] at h2
        have hu2 : Hold (upL s (j + 1) = upL s j) := by unfold Hold at *; rw [hu, if_neg c]
        clear hu
        have g4' : Hold ((upL s (j + 1) = [] ∧ x = .nils) ∨ (upL s (j + 1) ≠ [] ∧ ∃ c d, x = .sl (encI .i64 (upL s (j + 1))) (.own (c :: d :: q) 1) ∧ σ.K (c :: d :: q) = true)) := by unfold Hold at *; rw [hu2]; exact g4
        clear g4 hu2
        repeat' (first | (with_reducible refine T.sq fun K hK => ?_) | ((first | ((with_reducible refine T.reg hE ?hd ?_); (case hd => kernel_rfl)) | ((with_reducible refine T.any hE mixed ?hd ?hok ?_); (case hd => kernel_rfl); (case hok => kernel_rfl))); simp [*]; (repeat' (split; all_goals (rename_i hc; try simp [*])))) | ((with_reducible refine T.ret ?_); refine fin_pure ?_; simp [*]; try (change Hold _)) | (with_reducible refine T.block ?_) | ((with_reducible refine T.skip ?_); simp [*]) | ((with_reducible refine T.exit ?_); simp [*]) | ((with_reducible refine T.br fun K1 K2 hK1 hK2 => ?_); simp [*]; try ((refine Br.intro (fun hc => ?_) (fun hc => ?_)) <;> (try simp at hc))) | (with_reducible refine Cont.go (by assumption) _ ?_) | (with_reducible refine Cnt.go (by assumption) ?_))
        exact ⟨64 - (j + 1), by omega, j + 1, rfl, by omega, by omega, g4'⟩
    · have hj2 : j = 64 := by omega
      subst hj2
      rcases g4 with ⟨g5, rfl⟩ | ⟨g5, cc, d, rfl, g6⟩
      · have hv : Hold (listV s = .sl [] .no) := by unfold Hold listV; rw [g5]; rfl
        clear g5
        repeat' (first | (with_reducible refine T.sq fun K hK => ?_) | ((first | ((with_reducible refine T.reg hE ?hd ?_); (case hd => kernel_rfl)) | ((with_reducible refine T.any hE mixed ?hd ?hok ?_); (case hd => kernel_rfl); (case hok => kernel_rfl))); simp [*]; (repeat' (split; all_goals (rename_i hc; try simp [*])))) | ((with_reducible refine T.ret ?_); refine fin_pure ?_; simp [*]; try (change Hold _)) | (with_reducible refine T.block ?_) | ((with_reducible refine T.skip ?_); simp [*]) | ((with_reducible refine T.exit ?_); simp [*]) | ((with_reducible refine T.br fun K1 K2 hK1 hK2 => ?_); simp [*]; try ((refine Br.intro (fun hc => ?_) (fun hc => ?_)) <;> (try simp at hc))) | (with_reducible refine Cont.go (by assumption) _ ?_) | (with_reducible refine Cnt.go (by assumption) ?_))
        all_goals (unfold Hold at *; rw [hv])
      · have hv : Hold (listV s = .sl (encI .i64 (upL s 64)) .no) := rfl
        clear g5
        repeat' (first | (with_reducible refine T.sq fun K hK => ?_) | ((first | ((with_reducible refine T.reg hE ?hd ?_); (case hd => kernel_rfl)) | ((with_reducible refine T.any hE mixed ?hd ?hok ?_); (case hd => kernel_rfl); (case hok => kernel_rfl))); simp [*]; (repeat' (split; all_goals (rename_i hc; try simp [*])))) | ((with_reducible refine T.ret ?_); refine fin_pure ?_; simp [*]; try (change Hold _)) | (with_reducible refine T.block ?_) | ((with_reducible refine T.skip ?_); simp [*]) | ((with_reducible refine T.exit ?_); simp [*]) | ((with_reducible refine T.br fun K1 K2 hK1 hK2 => ?_); simp [*]; try ((refine Br.intro (fun hc => ?_) (fun hc => ?_)) <;> (try simp at hc))) | (with_reducible refine Cont.go (by assumption) _ ?_) | (with_reducible refine Cnt.go (by assumption) ?_))
        all_goals (unfold Hold at *; rw [hv])
  · cases hr
def cloErr (a : Ex) : Int := if wantF a ≠ 0 then wantF a else rightE (dnE (frE a) a 64)
def cloX (a : Ex) : Ex := if cloErr a = 0 then dnE (frE a) a 64 else ex0
@[simp] def gClose : List V → Option V := f1 kE fun a => some (.tup [enc (cloX a), .int .i64 (cloErr a)])
end Go.Proofs.Ytaacfmakfkaddaa.Ax
