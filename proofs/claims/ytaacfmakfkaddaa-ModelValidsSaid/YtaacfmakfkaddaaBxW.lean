/- Contracts: which worlds may be. -/
import Derived.Test.YtaacfmakfkaddaaAxU
import Derived.Test.YtaacfmakfkaddaaAxT
set_option linter.unusedVariables false
set_option linter.unusedSimpArgs false
namespace Go.Proofs.Ytaacfmakfkaddaa.Ax
open Go Go.Proofs

theorem pow_small {n b j : Nat} (h : n ≤ 3) (hj : j ≤ 4) : n ^ j ≤ 81 :=
  Nat.le_trans (Nat.pow_le_pow_left h j) (Nat.le_trans (Nat.pow_le_pow_right (by omega) hj) (by decide))
@[simp] def gPower : List V → Option V := f2 (kI .i64) (kI .i64) fun n b => if 1 ≤ n ∧ n ≤ 3 ∧ 0 ≤ b ∧ b ≤ 4 then some (.int .i64 (n ^ b.toNat)) else none
theorem ok_power : PureOk Try.prog 60 gPower := by
  intro args r h
  obtain ⟨n, b, rfl, hr⟩ := f2_inv h; clear h
  split at hr
  · rename_i hc
    obtain ⟨h1, h2, h3, h4⟩ := hc
    cases hr
    obtain ⟨n, rfl⟩ := Int.eq_ofNat_of_zero_le (show (0 : Int) ≤ n by omega)
    obtain ⟨b, rfl⟩ := Int.eq_ofNat_of_zero_le h3
    have hE := (EnvOk.nil (P := Try.prog) (eq := fun _ => false) (own := fun _ => false) (mem := fun _ => false) EqOk.none)
    refine ⟨⟨Try.f60, Try.func60, by decide, rfl⟩, pure_of_T Try.func60 rfl (by simp [Try.ntmps60]) fun q => ?_⟩
    repeat' (first | (with_reducible refine T.sq fun K hK => ?_) | ((first | ((with_reducible refine T.reg hE ?hd ?_); (case hd => kernel_rfl)) | ((with_reducible refine T.any hE mixed ?hd ?hok ?_); (case hd => kernel_rfl); (case hok => kernel_rfl))); simp [*]; (repeat' (split; all_goals (rename_i hc; try simp [*])))) | ((with_reducible refine T.ret ?_); refine fin_pure ?_; simp [*]; try (change Hold _)) | (with_reducible refine T.block ?_) | ((with_reducible refine T.skip ?_); simp [*]) | ((with_reducible refine T.exit ?_); simp [*]) | ((with_reducible refine T.br fun K1 K2 hK1 hK2 => ?_); simp [*]; try ((refine Br.intro (fun hc => ?_) (fun hc => ?_)) <;> (try simp at hc))) | (with_reducible refine Cont.go (by assumption) _ ?_) | (with_reducible refine Cnt.go (by assumption) ?_))
    refine T.loop (fun m σ => ∃ j : Nat, m = b - j ∧ σ.get 6 = .int .i64 b ∧ σ.get 7 = .int .i64 j ∧ σ.get 0 = .int .i64 n ∧ j ≤ b ∧ σ.get 5 = .int .i64 ((n ^ j : Nat) : Int)) b ⟨0, by simp⟩ ?_
    rintro m σ ⟨j, rfl, g1, g2, g3, g4, g5⟩
    by_cases hj : j < b
    · have hw : IntKind.i64.wrap ((j : Int) + 1) = (j : Int) + 1 := wrap64 (by omega) (by omega)
      have hp := pow_small (b := b) (n := n) (j := j + 1) (by omega) (by omega)
      have hq : ((n ^ j : Nat) : Int) * (n : Int) = ((n ^ (j + 1) : Nat) : Int) := by rw [Nat.pow_succ]; rfl
      have hw2 : IntKind.i64.wrap (((n ^ j : Nat) : Int) * (n : Int)) = ((n ^ (j + 1) : Nat) : Int) := by rw [hq]; exact wrap64 (by omega) (by omega)
      rw [Int.natCast_pow] at hw2
      rw [Int.natCast_pow] at g5
      repeat' (first | (with_reducible refine T.sq fun K hK => ?_) | ((first | ((with_reducible refine T.reg hE ?hd ?_); (case hd => kernel_rfl)) | ((with_reducible refine T.any hE mixed ?hd ?hok ?_); (case hd => kernel_rfl); (case hok => kernel_rfl))); simp [*]; (repeat' (split; all_goals (rename_i hc; try simp [*])))) | ((with_reducible refine T.ret ?_); refine fin_pure ?_; simp [*]; try (change Hold _)) | (with_reducible refine T.block ?_) | ((with_reducible refine T.skip ?_); simp [*]) | ((with_reducible refine T.exit ?_); simp [*]) | ((with_reducible refine T.br fun K1 K2 hK1 hK2 => ?_); simp [*]; try ((refine Br.intro (fun hc => ?_) (fun hc => ?_)) <;> (try simp at hc))) | (with_reducible refine Cont.go (by assumption) _ ?_) | (with_reducible refine Cnt.go (by assumption) ?_))
      exact ⟨b - (j + 1), by omega, j + 1, rfl, by omega, by omega, by simp⟩
    · have w8 : j = b := by omega
      subst w8
      rw [Int.natCast_pow] at g5
      repeat' (first | (with_reducible refine T.sq fun K hK => ?_) | ((first | ((with_reducible refine T.reg hE ?hd ?_); (case hd => kernel_rfl)) | ((with_reducible refine T.any hE mixed ?hd ?hok ?_); (case hd => kernel_rfl); (case hok => kernel_rfl))); simp [*]; (repeat' (split; all_goals (rename_i hc; try simp [*])))) | ((with_reducible refine T.ret ?_); refine fin_pure ?_; simp [*]; try (change Hold _)) | (with_reducible refine T.block ?_) | ((with_reducible refine T.skip ?_); simp [*]) | ((with_reducible refine T.exit ?_); simp [*]) | ((with_reducible refine T.br fun K1 K2 hK1 hK2 => ?_); simp [*]; try ((refine Br.intro (fun hc => ?_) (fun hc => ?_)) <;> (try simp at hc))) | (with_reducible refine Cont.go (by assumption) _ ?_) | (with_reducible refine Cnt.go (by assumption) ?_))
  · cases hr
theorem ok_rPower : PureOk Try.prog 64 gPower := by
  intro args r h
  obtain ⟨n, b, rfl, hr⟩ := f2_inv h; clear h
  split at hr
  · rename_i hc
    obtain ⟨h1, h2, h3, h4⟩ := hc
    cases hr
    obtain ⟨n, rfl⟩ := Int.eq_ofNat_of_zero_le (show (0 : Int) ≤ n by omega)
    obtain ⟨b, rfl⟩ := Int.eq_ofNat_of_zero_le h3
    have hE := (EnvOk.nil (P := Try.prog) (eq := fun _ => false) (own := fun _ => false) (mem := fun _ => false) EqOk.none)
    refine ⟨⟨Try.f64, Try.func64, by decide, rfl⟩, pure_of_T Try.func64 rfl (by simp [Try.ntmps64]) fun q => ?_⟩
    repeat' (first | (with_reducible refine T.sq fun K hK => ?_) | ((first | ((with_reducible refine T.reg hE ?hd ?_); (case hd => kernel_rfl)) | ((with_reducible refine T.any hE mixed ?hd ?hok ?_); (case hd => kernel_rfl); (case hok => kernel_rfl))); simp [*]; (repeat' (split; all_goals (rename_i hc; try simp [*])))) | ((with_reducible refine T.ret ?_); refine fin_pure ?_; simp [*]; try (change Hold _)) | (with_reducible refine T.block ?_) | ((with_reducible refine T.skip ?_); simp [*]) | ((with_reducible refine T.exit ?_); simp [*]) | ((with_reducible refine T.br fun K1 K2 hK1 hK2 => ?_); simp [*]; try ((refine Br.intro (fun hc => ?_) (fun hc => ?_)) <;> (try simp at hc))) | (with_reducible refine Cont.go (by assumption) _ ?_) | (with_reducible refine Cnt.go (by assumption) ?_))
    refine T.loop (fun m σ => ∃ j : Nat, m = b - j ∧ σ.get 1 = .int .i64 b ∧ σ.get 6 = .int .i64 j ∧ σ.get 0 = .int .i64 n ∧ j ≤ b ∧ σ.get 5 = .int .i64 ((n ^ j : Nat) : Int)) b ⟨0, by simp⟩ ?_
    rintro m σ ⟨j, rfl, g1, g2, g3, g4, g5⟩
    by_cases hj : j < b
    · have hw : IntKind.i64.wrap ((j : Int) + 1) = (j : Int) + 1 := wrap64 (by omega) (by omega)
      have hp := pow_small (b := b) (n := n) (j := j + 1) (by omega) (by omega)
      have hq : ((n ^ j : Nat) : Int) * (n : Int) = ((n ^ (j + 1) : Nat) : Int) := by rw [Nat.pow_succ]; rfl
      have hw2 : IntKind.i64.wrap (((n ^ j : Nat) : Int) * (n : Int)) = ((n ^ (j + 1) : Nat) : Int) := by rw [hq]; exact wrap64 (by omega) (by omega)
      rw [Int.natCast_pow] at hw2
      rw [Int.natCast_pow] at g5
      repeat' (first | (with_reducible refine T.sq fun K hK => ?_) | ((first | ((with_reducible refine T.reg hE ?hd ?_); (case hd => kernel_rfl)) | ((with_reducible refine T.any hE mixed ?hd ?hok ?_); (case hd => kernel_rfl); (case hok => kernel_rfl))); simp [*]; (repeat' (split; all_goals (rename_i hc; try simp [*])))) | ((with_reducible refine T.ret ?_); refine fin_pure ?_; simp [*]; try (change Hold _)) | (with_reducible refine T.block ?_) | ((with_reducible refine T.skip ?_); simp [*]) | ((with_reducible refine T.exit ?_); simp [*]) | ((with_reducible refine T.br fun K1 K2 hK1 hK2 => ?_); simp [*]; try ((refine Br.intro (fun hc => ?_) (fun hc => ?_)) <;> (try simp at hc))) | (with_reducible refine Cont.go (by assumption) _ ?_) | (with_reducible refine Cnt.go (by assumption) ?_))
      exact ⟨b - (j + 1), by omega, j + 1, rfl, by omega, by omega, by simp⟩
    · have w8 : j = b := by omega
      subst w8
      rw [Int.natCast_pow] at g5
      repeat' (first | (with_reducible refine T.sq fun K hK => ?_) | ((first | ((with_reducible refine T.reg hE ?hd ?_); (case hd => kernel_rfl)) | ((with_reducible refine T.any hE mixed ?hd ?hok ?_); (case hd => kernel_rfl); (case hok => kernel_rfl))); simp [*]; (repeat' (split; all_goals (rename_i hc; try simp [*])))) | ((with_reducible refine T.ret ?_); refine fin_pure ?_; simp [*]; try (change Hold _)) | (with_reducible refine T.block ?_) | ((with_reducible refine T.skip ?_); simp [*]) | ((with_reducible refine T.exit ?_); simp [*]) | ((with_reducible refine T.br fun K1 K2 hK1 hK2 => ?_); simp [*]; try ((refine Br.intro (fun hc => ?_) (fun hc => ?_)) <;> (try simp at hc))) | (with_reducible refine Cont.go (by assumption) _ ?_) | (with_reducible refine Cnt.go (by assumption) ?_))
  · cases hr

def valsOk (l : List Int) (most : Int) : Bool := l.all fun v => decide (0 ≤ v) && decide (v < most)
def tbOk (t : Tb) (size most : Int) : Bool := decide (0 ≤ t.id) && decide (t.id ≤ 99) && decide (0 ≤ t.args) && decide (t.args ≤ 4) && decide ((t.vals.length : Int) = size ^ t.args.toNat) && valsOk t.vals most
@[simp] def gTable : List V → Option V := f3 (kRw rTb) (kI .i64) (kI .i64) fun t size most => if 1 ≤ size ∧ size ≤ 3 then some (.bool (tbOk t size most)) else none
set_option maxHeartbeats 1000000 in
theorem ok_rTable : PureOk Try.prog 45 gTable := by
  intro args r h
  obtain ⟨t, size, most, rfl, hr⟩ := f3_inv h; clear h
  split at hr
  · rename_i hc
    obtain ⟨h1, h2⟩ := hc
    cases hr
    have hE := ((EnvOk.nil (P := Try.prog) (eq := fun _ => false) (own := fun _ => false) (mem := fun _ => false) EqOk.none).addf ok_rPower)
    refine ⟨⟨Try.f45, Try.func45, by decide, rfl⟩, pure_of_T Try.func45 rfl (by simp [Try.ntmps45]) fun q => ?_⟩
    by_cases c : 0 ≤ t.id ∧ t.id ≤ 99 ∧ 0 ≤ t.args ∧ t.args ≤ 4
    · obtain ⟨c1, c2, c3, c4⟩ := c
      have d1 : ¬ t.id < 0 := by omega
      have d2 : ¬ 99 < t.id := by omega
      have d3 : ¬ t.args < 0 := by omega
      have d4 : ¬ 4 < t.args := by omega
      by_cases c5 : size ^ t.args.toNat = (t.vals.length : Int)
      rotate_left
      · have c6 : ¬ (t.vals.length : Int) = size ^ t.args.toNat := fun h => c5 h.symm
        repeat' (first | (with_reducible refine T.sq fun K hK => ?_) | ((first | ((with_reducible refine T.reg hE ?hd ?_); (case hd => kernel_rfl)) | ((with_reducible refine T.any hE mixed ?hd ?hok ?_); (case hd => kernel_rfl); (case hok => kernel_rfl))); simp [*]; (repeat' (split; all_goals (rename_i hc; try simp [*])))) | ((with_reducible refine T.ret ?_); refine fin_pure ?_; simp [*]; try (change Hold _)) | (with_reducible refine T.block ?_) | ((with_reducible refine T.skip ?_); simp [*]) | ((with_reducible refine T.exit ?_); simp [*]) | ((with_reducible refine T.br fun K1 K2 hK1 hK2 => ?_); simp [*]; try ((refine Br.intro (fun hc => ?_) (fun hc => ?_)) <;> (try simp at hc))) | (with_reducible refine Cont.go (by assumption) _ ?_) | (with_reducible refine Cnt.go (by assumption) ?_))
        unfold Hold; simp [tbOk, *]
      repeat' (first | (with_reducible refine T.sq fun K hK => ?_) | ((first | ((with_reducible refine T.reg hE ?hd ?_); (case hd => kernel_rfl)) | ((with_reducible refine T.any hE mixed ?hd ?hok ?_); (case hd => kernel_rfl); (case hok => kernel_rfl))); simp [*]; (repeat' (split; all_goals (rename_i hc; try simp [*])))) | ((with_reducible refine T.ret ?_); refine fin_pure ?_; simp [*]; try (change Hold _)) | (with_reducible refine T.block ?_) | ((with_reducible refine T.skip ?_); simp [*]) | ((with_reducible refine T.exit ?_); simp [*]) | ((with_reducible refine T.br fun K1 K2 hK1 hK2 => ?_); simp [*]; try ((refine Br.intro (fun hc => ?_) (fun hc => ?_)) <;> (try simp at hc))) | (with_reducible refine Cont.go (by assumption) _ ?_) | (with_reducible refine Cnt.go (by assumption) ?_))
      refine T.len (t := 38) (els := encI .i64 t.vals) (tk := .no) (by simp [*]) fun hlen => ?_
      rw [encI_length] at hlen
      refine T.loop (fun m σ => ∃ j : Nat, m = t.vals.length - j ∧ σ.get 38 = .sl (encI .i64 t.vals) .no ∧ σ.get 39 = .int .i64 t.vals.length ∧ σ.get 40 = .int .i64 j ∧ σ.get 2 = .int .i64 most ∧ j ≤ t.vals.length ∧ Hold (valsOk (t.vals.take j) most = true)) t.vals.length ⟨0, by simp [*, Hold, valsOk]⟩ ?_
      rintro m σ ⟨j, rfl, g1, g2, g3, g4, g5, g6⟩
      by_cases hj : j < t.vals.length
      · have hw := wrap_succ hlen hj
        have c3 := all_take_succ t.vals (fun v => decide (0 ≤ v) && decide (v < most)) j hj
        by_cases v1 : 0 ≤ t.vals[j] ∧ t.vals[j] < most
        · obtain ⟨v1, v2⟩ := v1
          have v3 : ¬ t.vals[j] < 0 := by omega
          have v4 : ¬ most ≤ t.vals[j] := by omega
          repeat' (first | (with_reducible refine T.sq fun K hK => ?_) | ((first | ((with_reducible refine T.reg hE ?hd ?_); (case hd => kernel_rfl)) | ((with_reducible refine T.any hE mixed ?hd ?hok ?_); (case hd => kernel_rfl); (case hok => kernel_rfl))); simp [*]; (repeat' (split; all_goals (rename_i hc; try simp [*])))) | ((with_reducible refine T.ret ?_); refine fin_pure ?_; simp [*]; try (change Hold _)) | (with_reducible refine T.block ?_) | ((with_reducible refine T.skip ?_); simp [*]) | ((with_reducible refine T.exit ?_); simp [*]) | ((with_reducible refine T.br fun K1 K2 hK1 hK2 => ?_); simp [*]; try ((refine Br.intro (fun hc => ?_) (fun hc => ?_)) <;> (try simp at hc))) | (with_reducible refine Cont.go (by assumption) _ ?_) | (with_reducible refine Cnt.go (by assumption) ?_))
          unfold Hold valsOk at *
          rw [g6] at c3
          exact ⟨_, by omega, j + 1, rfl, by omega, by omega, by simpa [v1, v2] using c3⟩
        · have hf : valsOk t.vals most = false := List.all_eq_false.2 ⟨t.vals[j], by simp, by simp; omega⟩
          by_cases v3 : t.vals[j] < 0
          · repeat' (first | (with_reducible refine T.sq fun K hK => ?_) | ((first | ((with_reducible refine T.reg hE ?hd ?_); (case hd => kernel_rfl)) | ((with_reducible refine T.any hE mixed ?hd ?hok ?_); (case hd => kernel_rfl); (case hok => kernel_rfl))); simp [*]; (repeat' (split; all_goals (rename_i hc; try simp [*])))) | ((with_reducible refine T.ret ?_); refine fin_pure ?_; simp [*]; try (change Hold _)) | (with_reducible refine T.block ?_) | ((with_reducible refine T.skip ?_); simp [*]) | ((with_reducible refine T.exit ?_); simp [*]) | ((with_reducible refine T.br fun K1 K2 hK1 hK2 => ?_); simp [*]; try ((refine Br.intro (fun hc => ?_) (fun hc => ?_)) <;> (try simp at hc))) | (with_reducible refine Cont.go (by assumption) _ ?_) | (with_reducible refine Cnt.go (by assumption) ?_))
            all_goals (unfold Hold; simp [tbOk, *])
          · have v4 : most ≤ t.vals[j] := by omega
            repeat' (first | (with_reducible refine T.sq fun K hK => ?_) | ((first | ((with_reducible refine T.reg hE ?hd ?_); (case hd => kernel_rfl)) | ((with_reducible refine T.any hE mixed ?hd ?hok ?_); (case hd => kernel_rfl); (case hok => kernel_rfl))); simp [*]; (repeat' (split; all_goals (rename_i hc; try simp [*])))) | ((with_reducible refine T.ret ?_); refine fin_pure ?_; simp [*]; try (change Hold _)) | (with_reducible refine T.block ?_) | ((with_reducible refine T.skip ?_); simp [*]) | ((with_reducible refine T.exit ?_); simp [*]) | ((with_reducible refine T.br fun K1 K2 hK1 hK2 => ?_); simp [*]; try ((refine Br.intro (fun hc => ?_) (fun hc => ?_)) <;> (try simp at hc))) | (with_reducible refine Cont.go (by assumption) _ ?_) | (with_reducible refine Cnt.go (by assumption) ?_))
            all_goals (unfold Hold; simp [tbOk, *])
      · have w8 : j = t.vals.length := by omega
        subst w8
        rw [List.take_length] at g6
        repeat' (first | (with_reducible refine T.sq fun K hK => ?_) | ((first | ((with_reducible refine T.reg hE ?hd ?_); (case hd => kernel_rfl)) | ((with_reducible refine T.any hE mixed ?hd ?hok ?_); (case hd => kernel_rfl); (case hok => kernel_rfl))); simp [*]; (repeat' (split; all_goals (rename_i hc; try simp [*])))) | ((with_reducible refine T.ret ?_); refine fin_pure ?_; simp [*]; try (change Hold _)) | (with_reducible refine T.block ?_) | ((with_reducible refine T.skip ?_); simp [*]) | ((with_reducible refine T.exit ?_); simp [*]) | ((with_reducible refine T.br fun K1 K2 hK1 hK2 => ?_); simp [*]; try ((refine Br.intro (fun hc => ?_) (fun hc => ?_)) <;> (try simp at hc))) | (with_reducible refine Cont.go (by assumption) _ ?_) | (with_reducible refine Cnt.go (by assumption) ?_))
        unfold Hold at *; simp [tbOk, *]
    · have hf : tbOk t size most = false := by
        unfold tbOk
        by_cases c1 : 0 ≤ t.id <;> by_cases c2 : t.id ≤ 99 <;> by_cases c3 : 0 ≤ t.args <;> by_cases c4 : t.args ≤ 4 <;> simp [c1, c2, c3, c4]
        exact absurd ⟨c1, c2, c3, c4⟩ c
      by_cases c1 : t.id < 0
      · repeat' (first | (with_reducible refine T.sq fun K hK => ?_) | ((first | ((with_reducible refine T.reg hE ?hd ?_); (case hd => kernel_rfl)) | ((with_reducible refine T.any hE mixed ?hd ?hok ?_); (case hd => kernel_rfl); (case hok => kernel_rfl))); simp [*]; (repeat' (split; all_goals (rename_i hc; try simp [*])))) | ((with_reducible refine T.ret ?_); refine fin_pure ?_; simp [*]; try (change Hold _)) | (with_reducible refine T.block ?_) | ((with_reducible refine T.skip ?_); simp [*]) | ((with_reducible refine T.exit ?_); simp [*]) | ((with_reducible refine T.br fun K1 K2 hK1 hK2 => ?_); simp [*]; try ((refine Br.intro (fun hc => ?_) (fun hc => ?_)) <;> (try simp at hc))) | (with_reducible refine Cont.go (by assumption) _ ?_) | (with_reducible refine Cnt.go (by assumption) ?_))
        all_goals (unfold Hold; simp [*])
      by_cases c2 : 99 < t.id
      · repeat' (first | (with_reducible refine T.sq fun K hK => ?_) | ((first | ((with_reducible refine T.reg hE ?hd ?_); (case hd => kernel_rfl)) | ((with_reducible refine T.any hE mixed ?hd ?hok ?_); (case hd => kernel_rfl); (case hok => kernel_rfl))); simp [*]; (repeat' (split; all_goals (rename_i hc; try simp [*])))) | ((with_reducible refine T.ret ?_); refine fin_pure ?_; simp [*]; try (change Hold _)) | (with_reducible refine T.block ?_) | ((with_reducible refine T.skip ?_); simp [*]) | ((with_reducible refine T.exit ?_); simp [*]) | ((with_reducible refine T.br fun K1 K2 hK1 hK2 => ?_); simp [*]; try ((refine Br.intro (fun hc => ?_) (fun hc => ?_)) <;> (try simp at hc))) | (with_reducible refine Cont.go (by assumption) _ ?_) | (with_reducible refine Cnt.go (by assumption) ?_))
        all_goals (unfold Hold; simp [*])
      by_cases c3 : t.args < 0
      · repeat' (first | (with_reducible refine T.sq fun K hK => ?_) | ((first | ((with_reducible refine T.reg hE ?hd ?_); (case hd => kernel_rfl)) | ((with_reducible refine T.any hE mixed ?hd ?hok ?_); (case hd => kernel_rfl); (case hok => kernel_rfl))); simp [*]; (repeat' (split; all_goals (rename_i hc; try simp [*])))) | ((with_reducible refine T.ret ?_); refine fin_pure ?_; simp [*]; try (change Hold _)) | (with_reducible refine T.block ?_) | ((with_reducible refine T.skip ?_); simp [*]) | ((with_reducible refine T.exit ?_); simp [*]) | ((with_reducible refine T.br fun K1 K2 hK1 hK2 => ?_); simp [*]; try ((refine Br.intro (fun hc => ?_) (fun hc => ?_)) <;> (try simp at hc))) | (with_reducible refine Cont.go (by assumption) _ ?_) | (with_reducible refine Cnt.go (by assumption) ?_))
        all_goals (unfold Hold; simp [*])
      have c4 : 4 < t.args := by omega
      repeat' (first | (with_reducible refine T.sq fun K hK => ?_) | ((first | ((with_reducible refine T.reg hE ?hd ?_); (case hd => kernel_rfl)) | ((with_reducible refine T.any hE mixed ?hd ?hok ?_); (case hd => kernel_rfl); (case hok => kernel_rfl))); simp [*]; (repeat' (split; all_goals (rename_i hc; try simp [*])))) | ((with_reducible refine T.ret ?_); refine fin_pure ?_; simp [*]; try (change Hold _)) | (with_reducible refine T.block ?_) | ((with_reducible refine T.skip ?_); simp [*]) | ((with_reducible refine T.exit ?_); simp [*]) | ((with_reducible refine T.br fun K1 K2 hK1 hK2 => ?_); simp [*]; try ((refine Br.intro (fun hc => ?_) (fun hc => ?_)) <;> (try simp at hc))) | (with_reducible refine Cont.go (by assumption) _ ?_) | (with_reducible refine Cnt.go (by assumption) ?_))
      all_goals (unfold Hold; simp [*])
  · cases hr

def tbNew (l : List Tb) (t : Tb) : Bool := l.all fun u => !(decide (u.id = t.id) && decide (u.args = t.args))
def goodAt (l : List Tb) (size most : Int) (i : Nat) : Bool := match l[i]? with
  | some t => tbOk t size most && tbNew (l.take i) t
  | none => true
def allOk (l : List Tb) (size most : Int) (j : Nat) : Bool := (List.range j).all (goodAt l size most)
def tbsOk (l : List Tb) (size most : Int) : Bool := decide (l.length ≤ 8) && allOk l size most l.length
theorem tbs_bad {l : List Tb} {size most : Int} {j : Nat} (hj : j < l.length) (h : (tbOk l[j] size most && tbNew (l.take j) l[j]) = false) : tbsOk l size most = false := by
  have : allOk l size most l.length = false := List.all_eq_false.2 ⟨j, by simp [hj], by simp [goodAt, hj, h]⟩
  simp [tbsOk, this]
theorem tbs_step {l : List Tb} {size most : Int} {j : Nat} (hj : j < l.length) (h0 : allOk l size most j = true) (h1 : tbOk l[j] size most = true) (h2 : tbNew (l.take j) l[j] = true) : allOk l size most (j + 1) = true := by
  unfold allOk at *
  rw [List.range_succ, List.all_append, h0]
  simp [goodAt, hj, h1, h2]
@[simp] def gTables : List V → Option V := f3 (kRs rTb) (kI .i64) (kI .i64) fun l size most => if 1 ≤ size ∧ size ≤ 3 then some (.bool (tbsOk l size most)) else none
set_option maxHeartbeats 1000000 in
theorem ok_rTables : PureOk Try.prog 29 gTables := by
  intro args r h
  obtain ⟨l, size, most, rfl, hr⟩ := f3_inv h; clear h
  split at hr
  · rename_i hc
    obtain ⟨h1, h2⟩ := hc
    cases hr
    have hE := ((EnvOk.nil (P := Try.prog) (eq := fun _ => false) (own := fun _ => false) (mem := fun _ => false) EqOk.none).addf ok_rTable)
    refine ⟨⟨Try.f29, Try.func29, by decide, rfl⟩, pure_of_T Try.func29 rfl (by simp [Try.ntmps29]) fun q => ?_⟩
    by_cases c : (8 : Int) < (l.length : Int)
    · repeat' (first | (with_reducible refine T.sq fun K hK => ?_) | ((first | ((with_reducible refine T.reg hE ?hd ?_); (case hd => kernel_rfl)) | ((with_reducible refine T.any hE mixed ?hd ?hok ?_); (case hd => kernel_rfl); (case hok => kernel_rfl))); simp [*]; (repeat' (split; all_goals (rename_i hc; try simp [*])))) | ((with_reducible refine T.ret ?_); refine fin_pure ?_; simp [*]; try (change Hold _)) | (with_reducible refine T.block ?_) | ((with_reducible refine T.skip ?_); simp [*]) | ((with_reducible refine T.exit ?_); simp [*]) | ((with_reducible refine T.br fun K1 K2 hK1 hK2 => ?_); simp [*]; try ((refine Br.intro (fun hc => ?_) (fun hc => ?_)) <;> (try simp at hc))) | (with_reducible refine Cont.go (by assumption) _ ?_) | (with_reducible refine Cnt.go (by assumption) ?_))
      all_goals (unfold Hold; simp [tbsOk]; omega)
    repeat' (first | (with_reducible refine T.sq fun K hK => ?_) | ((first | ((with_reducible refine T.reg hE ?hd ?_); (case hd => kernel_rfl)) | ((with_reducible refine T.any hE mixed ?hd ?hok ?_); (case hd => kernel_rfl); (case hok => kernel_rfl))); simp [*]; (repeat' (split; all_goals (rename_i hc; try simp [*])))) | ((with_reducible refine T.ret ?_); refine fin_pure ?_; simp [*]; try (change Hold _)) | (with_reducible refine T.block ?_) | ((with_reducible refine T.skip ?_); simp [*]) | ((with_reducible refine T.exit ?_); simp [*]) | ((with_reducible refine T.br fun K1 K2 hK1 hK2 => ?_); simp [*]; try ((refine Br.intro (fun hc => ?_) (fun hc => ?_)) <;> (try simp at hc))) | (with_reducible refine Cont.go (by assumption) _ ?_) | (with_reducible refine Cnt.go (by assumption) ?_))
    refine T.len (t := 13) (els := rTb.encL l) (tk := .no) (by simp [*]) fun hlen => ?_
    rw [Rw.encL_length] at hlen
    refine T.loop (fun m σ => ∃ j : Nat, m = l.length - j ∧ σ.get 13 = .sl (rTb.encL l) .no ∧ σ.get 14 = .int .i64 l.length ∧ σ.get 15 = .int .i64 j ∧ σ.get 0 = .sl (rTb.encL l) .no ∧ σ.get 1 = .int .i64 size ∧ σ.get 2 = .int .i64 most ∧ j ≤ l.length ∧ Hold (allOk l size most j = true)) l.length ⟨0, by simp [*, Hold, allOk]⟩ ?_
    rintro m σ ⟨j, rfl, g1, g2, g3, g4, g5, g6, g7, g8⟩
    by_cases hj : j < l.length
    · have hw := wrap_succ hlen hj
      by_cases v1 : tbOk l[j] size most = true
      rotate_left
      · rw [Bool.not_eq_true] at v1
        repeat' (first | (with_reducible refine T.sq fun K hK => ?_) | ((first | ((with_reducible refine T.reg hE ?hd ?_); (case hd => kernel_rfl)) | ((with_reducible refine T.any hE mixed ?hd ?hok ?_); (case hd => kernel_rfl); (case hok => kernel_rfl))); simp [*]; (repeat' (split; all_goals (rename_i hc; try simp [*])))) | ((with_reducible refine T.ret ?_); refine fin_pure ?_; simp [*]; try (change Hold _)) | (with_reducible refine T.block ?_) | ((with_reducible refine T.skip ?_); simp [*]) | ((with_reducible refine T.exit ?_); simp [*]) | ((with_reducible refine T.br fun K1 K2 hK1 hK2 => ?_); simp [*]; try ((refine Br.intro (fun hc => ?_) (fun hc => ?_)) <;> (try simp at hc))) | (with_reducible refine Cont.go (by assumption) _ ?_) | (with_reducible refine Cnt.go (by assumption) ?_))
        have := tbs_bad (size := size) (most := most) hj (by rw [v1]; rfl)
        unfold Hold; simp [this]
      repeat' (first | (with_reducible refine T.sq fun K hK => ?_) | ((first | ((with_reducible refine T.reg hE ?hd ?_); (case hd => kernel_rfl)) | ((with_reducible refine T.any hE mixed ?hd ?hok ?_); (case hd => kernel_rfl); (case hok => kernel_rfl))); simp [*]; (repeat' (split; all_goals (rename_i hc; try simp [*])))) | ((with_reducible refine T.ret ?_); refine fin_pure ?_; simp [*]; try (change Hold _)) | (with_reducible refine T.block ?_) | ((with_reducible refine T.skip ?_); simp [*]) | ((with_reducible refine T.exit ?_); simp [*]) | ((with_reducible refine T.br fun K1 K2 hK1 hK2 => ?_); simp [*]; try ((refine Br.intro (fun hc => ?_) (fun hc => ?_)) <;> (try simp at hc))) | (with_reducible refine Cont.go (by assumption) _ ?_) | (with_reducible refine Cnt.go (by assumption) ?_))
      refine T.loop (fun m σ => ∃ k : Nat, m = j - k ∧ σ.get 13 = .sl (rTb.encL l) .no ∧ σ.get 14 = .int .i64 l.length ∧ σ.get 15 = .int .i64 j ∧ σ.get 0 = .sl (rTb.encL l) .no ∧ σ.get 1 = .int .i64 size ∧ σ.get 2 = .int .i64 most ∧ σ.get 7 = .int .i64 j ∧ σ.get 9 = .int .i64 k ∧ k ≤ j ∧ (∃ id, σ.get 8 = .ptr id 0 ∧ σ.M id = some (.cells (rTb.enc l[j]))) ∧ Hold (tbNew ((l.take j).take k) l[j] = true)) j ⟨0, by simp [*, Hold, tbNew]⟩ ?_
      clear g1 g2 g3 g4 g5 g6
      rintro m σ ⟨k, rfl, g1, g2, g3, g4, g5, g6, q1, q2, q3, ⟨id, q4, q5⟩, q6⟩
      rw [rTb_enc] at q5
      by_cases hk : k < j
      · have hkl : k < l.length := by omega
        have hw2 : IntKind.i64.wrap ((k : Int) + 1) = (k : Int) + 1 := wrap64 (by omega) (by omega)
        have ht : k < (l.take j).length := by simp; omega
        have c3 := all_take_succ (l.take j) (fun u => !(decide (u.id = l[j].id) && decide (u.args = l[j].args))) k ht
        rw [List.getElem_take] at c3
        by_cases w1 : l[k].id = l[j].id
        · by_cases w2 : l[k].args = l[j].args
          · have hb : tbNew (l.take j) l[j] = false := List.all_eq_false.2 ⟨l[k], by rw [← List.getElem_take (h := ht)]; exact List.getElem_mem ht, by simp [w1, w2]⟩
            clear c3 ht
            repeat' (first | (with_reducible refine T.sq fun K hK => ?_) | ((first | ((with_reducible refine T.reg hE ?hd ?_); (case hd => kernel_rfl)) | ((with_reducible refine T.any hE mixed ?hd ?hok ?_); (case hd => kernel_rfl); (case hok => kernel_rfl))); simp [*]; (repeat' (split; all_goals (rename_i hc; try simp [*])))) | ((with_reducible refine T.ret ?_); refine fin_pure ?_; simp [*]; try (change Hold _)) | (with_reducible refine T.block ?_) | ((with_reducible refine T.skip ?_); simp [*]) | ((with_reducible refine T.exit ?_); simp [*]) | ((with_reducible refine T.br fun K1 K2 hK1 hK2 => ?_); simp [*]; try ((refine Br.intro (fun hc => ?_) (fun hc => ?_)) <;> (try simp at hc))) | (with_reducible refine Cont.go (by assumption) _ ?_) | (with_reducible refine Cnt.go (by assumption) ?_))
            have := tbs_bad (size := size) (most := most) hj (by rw [hb, Bool.and_false])
            unfold Hold; simp [this]
          · have c4 : Hold (tbNew ((l.take j).take (k + 1)) l[j] = true) := by unfold Hold tbNew at *; rw [q6] at c3; simpa [w2] using c3
            clear c3 ht
            repeat' (first | (with_reducible refine T.sq fun K hK => ?_) | ((first | ((with_reducible refine T.reg hE ?hd ?_); (case hd => kernel_rfl)) | ((with_reducible refine T.any hE mixed ?hd ?hok ?_); (case hd => kernel_rfl); (case hok => kernel_rfl))); simp [*]; (repeat' (split; all_goals (rename_i hc; try simp [*])))) | ((with_reducible refine T.ret ?_); refine fin_pure ?_; simp [*]; try (change Hold _)) | (with_reducible refine T.block ?_) | ((with_reducible refine T.skip ?_); simp [*]) | ((with_reducible refine T.exit ?_); simp [*]) | ((with_reducible refine T.br fun K1 K2 hK1 hK2 => ?_); simp [*]; try ((refine Br.intro (fun hc => ?_) (fun hc => ?_)) <;> (try simp at hc))) | (with_reducible refine Cont.go (by assumption) _ ?_) | (with_reducible refine Cnt.go (by assumption) ?_))
            exact ⟨_, by omega, k + 1, rfl, by omega, by omega, c4⟩
        · have c4 : Hold (tbNew ((l.take j).take (k + 1)) l[j] = true) := by unfold Hold tbNew at *; rw [q6] at c3; simpa [w1] using c3
          clear c3 ht
          repeat' (first | (with_reducible refine T.sq fun K hK => ?_) | ((first | ((with_reducible refine T.reg hE ?hd ?_); (case hd => kernel_rfl)) | ((with_reducible refine T.any hE mixed ?hd ?hok ?_); (case hd => kernel_rfl); (case hok => kernel_rfl))); simp [*]; (repeat' (split; all_goals (rename_i hc; try simp [*])))) | ((with_reducible refine T.ret ?_); refine fin_pure ?_; simp [*]; try (change Hold _)) | (with_reducible refine T.block ?_) | ((with_reducible refine T.skip ?_); simp [*]) | ((with_reducible refine T.exit ?_); simp [*]) | ((with_reducible refine T.br fun K1 K2 hK1 hK2 => ?_); simp [*]; try ((refine Br.intro (fun hc => ?_) (fun hc => ?_)) <;> (try simp at hc))) | (with_reducible refine Cont.go (by assumption) _ ?_) | (with_reducible refine Cnt.go (by assumption) ?_))
          exact ⟨_, by omega, k + 1, rfl, by omega, by omega, c4⟩
      · have w8 : k = j := by omega
        subst w8
        have c4 := tbs_step hj g8 v1 (by unfold Hold at q6; rw [List.take_take, Nat.min_self] at q6; exact q6)
        have c5 : Hold (allOk l size most (k + 1) = true) := c4
        clear c4
        repeat' (first | (with_reducible refine T.sq fun K hK => ?_) | ((first | ((with_reducible refine T.reg hE ?hd ?_); (case hd => kernel_rfl)) | ((with_reducible refine T.any hE mixed ?hd ?hok ?_); (case hd => kernel_rfl); (case hok => kernel_rfl))); simp [*]; (repeat' (split; all_goals (rename_i hc; try simp [*])))) | ((with_reducible refine T.ret ?_); refine fin_pure ?_; simp [*]; try (change Hold _)) | (with_reducible refine T.block ?_) | ((with_reducible refine T.skip ?_); simp [*]) | ((with_reducible refine T.exit ?_); simp [*]) | ((with_reducible refine T.br fun K1 K2 hK1 hK2 => ?_); simp [*]; try ((refine Br.intro (fun hc => ?_) (fun hc => ?_)) <;> (try simp at hc))) | (with_reducible refine Cont.go (by assumption) _ ?_) | (with_reducible refine Cnt.go (by assumption) ?_))
        exact ⟨_, by omega, k + 1, rfl, by omega, by omega, c5⟩
    · have w8 : j = l.length := by omega
      subst w8
      repeat' (first | (with_reducible refine T.sq fun K hK => ?_) | ((first | ((with_reducible refine T.reg hE ?hd ?_); (case hd => kernel_rfl)) | ((with_reducible refine T.any hE mixed ?hd ?hok ?_); (case hd => kernel_rfl); (case hok => kernel_rfl))); simp [*]; (repeat' (split; all_goals (rename_i hc; try simp [*])))) | ((with_reducible refine T.ret ?_); refine fin_pure ?_; simp [*]; try (change Hold _)) | (with_reducible refine T.block ?_) | ((with_reducible refine T.skip ?_); simp [*]) | ((with_reducible refine T.exit ?_); simp [*]) | ((with_reducible refine T.br fun K1 K2 hK1 hK2 => ?_); simp [*]; try ((refine Br.intro (fun hc => ?_) (fun hc => ?_)) <;> (try simp at hc))) | (with_reducible refine Cont.go (by assumption) _ ?_) | (with_reducible refine Cnt.go (by assumption) ?_))
      unfold Hold at *
      simp [tbsOk, g8]; omega
  · cases hr

set_option maxHeartbeats 4000000 in
theorem ok_tables : PureOk Try.prog 38 gTables := by
  intro args r h
  obtain ⟨l, size, most, rfl, hr⟩ := f3_inv h; clear h
  split at hr
  · rename_i hc
    obtain ⟨h1, h2⟩ := hc
    cases hr
    have hE := ((EnvOk.nil (P := Try.prog) (eq := fun _ => false) (own := fun _ => false) (mem := fun _ => false) EqOk.none).addf ok_power)
    refine ⟨⟨Try.f38, Try.func38, by decide, rfl⟩, pure_of_T Try.func38 rfl (by simp [Try.ntmps38]) fun q => ?_⟩
    by_cases c : (8 : Int) < (l.length : Int)
    · repeat' (first | (with_reducible refine T.sq fun K hK => ?_) | ((first | ((with_reducible refine T.reg hE ?hd ?_); (case hd => kernel_rfl)) | ((with_reducible refine T.any hE mixed ?hd ?hok ?_); (case hd => kernel_rfl); (case hok => kernel_rfl))); simp [*]; (repeat' (split; all_goals (rename_i hc; try simp [*])))) | ((with_reducible refine T.ret ?_); refine fin_pure ?_; simp [*]; try (change Hold _)) | (with_reducible refine T.block ?_) | ((with_reducible refine T.skip ?_); simp [*]) | ((with_reducible refine T.exit ?_); simp [*]) | ((with_reducible refine T.br fun K1 K2 hK1 hK2 => ?_); simp [*]; try ((refine Br.intro (fun hc => ?_) (fun hc => ?_)) <;> (try simp at hc))) | (with_reducible refine Cont.go (by assumption) _ ?_) | (with_reducible refine Cnt.go (by assumption) ?_))
      all_goals (unfold Hold; simp [tbsOk]; omega)
    repeat' (first | (with_reducible refine T.sq fun K hK => ?_) | ((first | ((with_reducible refine T.reg hE ?hd ?_); (case hd => kernel_rfl)) | ((with_reducible refine T.any hE mixed ?hd ?hok ?_); (case hd => kernel_rfl); (case hok => kernel_rfl))); simp [*]; (repeat' (split; all_goals (rename_i hc; try simp [*])))) | ((with_reducible refine T.ret ?_); refine fin_pure ?_; simp [*]; try (change Hold _)) | (with_reducible refine T.block ?_) | ((with_reducible refine T.skip ?_); simp [*]) | ((with_reducible refine T.exit ?_); simp [*]) | ((with_reducible refine T.br fun K1 K2 hK1 hK2 => ?_); simp [*]; try ((refine Br.intro (fun hc => ?_) (fun hc => ?_)) <;> (try simp at hc))) | (with_reducible refine Cont.go (by assumption) _ ?_) | (with_reducible refine Cnt.go (by assumption) ?_))
    refine T.len (t := 16) (els := rTb.encL l) (tk := .no) (by simp [*]) fun hlen => ?_
    rw [Rw.encL_length] at hlen
    refine T.loop (fun m σ => ∃ j : Nat, m = l.length - j ∧ σ.get 16 = .sl (rTb.encL l) .no ∧ σ.get 17 = .int .i64 l.length ∧ σ.get 18 = .int .i64 j ∧ σ.get 0 = .sl (rTb.encL l) .no ∧ σ.get 1 = .int .i64 size ∧ σ.get 2 = .int .i64 most ∧ j ≤ l.length ∧ Hold (allOk l size most j = true)) l.length ⟨0, by simp [*, Hold, allOk]⟩ ?_
    rintro m σ ⟨j, rfl, g1, g2, g3, g4, g5, g6, g7, g8⟩
    by_cases hj : j < l.length
    · have hw := wrap_succ hlen hj
      by_cases c : 0 ≤ l[j].id ∧ l[j].id ≤ 99 ∧ 0 ≤ l[j].args ∧ l[j].args ≤ 4
      rotate_left
      · have hf : tbOk l[j] size most = false := by
          unfold tbOk
          by_cases c1 : 0 ≤ l[j].id <;> by_cases c2 : l[j].id ≤ 99 <;> by_cases c3 : 0 ≤ l[j].args <;> by_cases c4 : l[j].args ≤ 4 <;> simp [c1, c2, c3, c4]
          exact absurd ⟨c1, c2, c3, c4⟩ c
        have hb := tbs_bad (size := size) (most := most) hj (by rw [hf]; rfl)
        by_cases c1 : l[j].id < 0
        · repeat' (first | (with_reducible refine T.sq fun K hK => ?_) | ((first | ((with_reducible refine T.reg hE ?hd ?_); (case hd => kernel_rfl)) | ((with_reducible refine T.any hE mixed ?hd ?hok ?_); (case hd => kernel_rfl); (case hok => kernel_rfl))); simp [*]; (repeat' (split; all_goals (rename_i hc; try simp [*])))) | ((with_reducible refine T.ret ?_); refine fin_pure ?_; simp [*]; try (change Hold _)) | (with_reducible refine T.block ?_) | ((with_reducible refine T.skip ?_); simp [*]) | ((with_reducible refine T.exit ?_); simp [*]) | ((with_reducible refine T.br fun K1 K2 hK1 hK2 => ?_); simp [*]; try ((refine Br.intro (fun hc => ?_) (fun hc => ?_)) <;> (try simp at hc))) | (with_reducible refine Cont.go (by assumption) _ ?_) | (with_reducible refine Cnt.go (by assumption) ?_))
          all_goals (unfold Hold; simp [*])
        by_cases c2 : 99 < l[j].id
        · repeat' (first | (with_reducible refine T.sq fun K hK => ?_) | ((first | ((with_reducible refine T.reg hE ?hd ?_); (case hd => kernel_rfl)) | ((with_reducible refine T.any hE mixed ?hd ?hok ?_); (case hd => kernel_rfl); (case hok => kernel_rfl))); simp [*]; (repeat' (split; all_goals (rename_i hc; try simp [*])))) | ((with_reducible refine T.ret ?_); refine fin_pure ?_; simp [*]; try (change Hold _)) | (with_reducible refine T.block ?_) | ((with_reducible refine T.skip ?_); simp [*]) | ((with_reducible refine T.exit ?_); simp [*]) | ((with_reducible refine T.br fun K1 K2 hK1 hK2 => ?_); simp [*]; try ((refine Br.intro (fun hc => ?_) (fun hc => ?_)) <;> (try simp at hc))) | (with_reducible refine Cont.go (by assumption) _ ?_) | (with_reducible refine Cnt.go (by assumption) ?_))
          all_goals (unfold Hold; simp [*])
        by_cases c3 : l[j].args < 0
        · repeat' (first | (with_reducible refine T.sq fun K hK => ?_) | ((first | ((with_reducible refine T.reg hE ?hd ?_); (case hd => kernel_rfl)) | ((with_reducible refine T.any hE mixed ?hd ?hok ?_); (case hd => kernel_rfl); (case hok => kernel_rfl))); simp [*]; (repeat' (split; all_goals (rename_i hc; try simp [*])))) | ((with_reducible refine T.ret ?_); refine fin_pure ?_; simp [*]; try (change Hold _)) | (with_reducible refine T.block ?_) | ((with_reducible refine T.skip ?_); simp [*]) | ((with_reducible refine T.exit ?_); simp [*]) | ((with_reducible refine T.br fun K1 K2 hK1 hK2 => ?_); simp [*]; try ((refine Br.intro (fun hc => ?_) (fun hc => ?_)) <;> (try simp at hc))) | (with_reducible refine Cont.go (by assumption) _ ?_) | (with_reducible refine Cnt.go (by assumption) ?_))
          all_goals (unfold Hold; simp [*])
        have c4 : 4 < l[j].args := by omega
        repeat' (first | (with_reducible refine T.sq fun K hK => ?_) | ((first | ((with_reducible refine T.reg hE ?hd ?_); (case hd => kernel_rfl)) | ((with_reducible refine T.any hE mixed ?hd ?hok ?_); (case hd => kernel_rfl); (case hok => kernel_rfl))); simp [*]; (repeat' (split; all_goals (rename_i hc; try simp [*])))) | ((with_reducible refine T.ret ?_); refine fin_pure ?_; simp [*]; try (change Hold _)) | (with_reducible refine T.block ?_) | ((with_reducible refine T.skip ?_); simp [*]) | ((with_reducible refine T.exit ?_); simp [*]) | ((with_reducible refine T.br fun K1 K2 hK1 hK2 => ?_); simp [*]; try ((refine Br.intro (fun hc => ?_) (fun hc => ?_)) <;> (try simp at hc))) | (with_reducible refine Cont.go (by assumption) _ ?_) | (with_reducible refine Cnt.go (by assumption) ?_))
        all_goals (unfold Hold; simp [*])
      obtain ⟨c1, c2, c3, c4⟩ := c
      have d1 : ¬ l[j].id < 0 := by omega
      have d2 : ¬ 99 < l[j].id := by omega
      have d3 : ¬ l[j].args < 0 := by omega
      have d4 : ¬ 4 < l[j].args := by omega
      by_cases c5 : size ^ l[j].args.toNat = (l[j].vals.length : Int)
      rotate_left
      · have c6 : ¬ (l[j].vals.length : Int) = size ^ l[j].args.toNat := fun h => c5 h.symm
        have hf : tbOk l[j] size most = false := by simp [tbOk, c6]
        have hb := tbs_bad (size := size) (most := most) hj (by rw [hf]; rfl)
        repeat' (first | (with_reducible refine T.sq fun K hK => ?_) | ((first | ((with_reducible refine T.reg hE ?hd ?_); (case hd => kernel_rfl)) | ((with_reducible refine T.any hE mixed ?hd ?hok ?_); (case hd => kernel_rfl); (case hok => kernel_rfl))); simp [*]; (repeat' (split; all_goals (rename_i hc; try simp [*])))) | ((with_reducible refine T.ret ?_); refine fin_pure ?_; simp [*]; try (change Hold _)) | (with_reducible refine T.block ?_) | ((with_reducible refine T.skip ?_); simp [*]) | ((with_reducible refine T.exit ?_); simp [*]) | ((with_reducible refine T.br fun K1 K2 hK1 hK2 => ?_); simp [*]; try ((refine Br.intro (fun hc => ?_) (fun hc => ?_)) <;> (try simp at hc))) | (with_reducible refine Cont.go (by assumption) _ ?_) | (with_reducible refine Cnt.go (by assumption) ?_))
        all_goals (unfold Hold; simp [*])
      repeat' (first | (with_reducible refine T.sq fun K hK => ?_) | ((first | ((with_reducible refine T.reg hE ?hd ?_); (case hd => kernel_rfl)) | ((with_reducible refine T.any hE mixed ?hd ?hok ?_); (case hd => kernel_rfl); (case hok => kernel_rfl))); simp [*]; (repeat' (split; all_goals (rename_i hc; try simp [*])))) | ((with_reducible refine T.ret ?_); refine fin_pure ?_; simp [*]; try (change Hold _)) | (with_reducible refine T.block ?_) | ((with_reducible refine T.skip ?_); simp [*]) | ((with_reducible refine T.exit ?_); simp [*]) | ((with_reducible refine T.br fun K1 K2 hK1 hK2 => ?_); simp [*]; try ((refine Br.intro (fun hc => ?_) (fun hc => ?_)) <;> (try simp at hc))) | (with_reducible refine Cont.go (by assumption) _ ?_) | (with_reducible refine Cnt.go (by assumption) ?_))
      refine T.len (t := 52) (els := encI .i64 l[j].vals) (tk := .no) (by simp [*]) fun hlen2 => ?_
      rw [encI_length] at hlen2
      refine T.loop (fun m σ => ∃ k : Nat, m = l[j].vals.length - k ∧ σ.get 16 = .sl (rTb.encL l) .no ∧ σ.get 17 = .int .i64 l.length ∧ σ.get 18 = .int .i64 j ∧ σ.get 0 = .sl (rTb.encL l) .no ∧ σ.get 1 = .int .i64 size ∧ σ.get 2 = .int .i64 most ∧ σ.get 7 = .int .i64 j ∧ σ.get 52 = .sl (encI .i64 l[j].vals) .no ∧ σ.get 53 = .int .i64 l[j].vals.length ∧ σ.get 54 = .int .i64 k ∧ k ≤ l[j].vals.length ∧ (∃ c, σ.get 8 = .ptr (c :: 10 :: q) 0 ∧ σ.M (c :: 10 :: q) = some (.cells (rTb.enc l[j]))) ∧ Hold (valsOk (l[j].vals.take k) most = true)) l[j].vals.length ⟨0, by simp [*, Hold, valsOk]⟩ ?_
      clear g1 g2 g3 g4 g5 g6
      rintro m σ ⟨k, rfl, g1, g2, g3, g4, g5, g6, q1, q2, q3, q4, q5, ⟨id, q6, q7⟩, q8⟩
      rw [rTb_enc] at q7
      by_cases hk : k < l[j].vals.length
      · have hw2 : IntKind.i64.wrap ((k : Int) + 1) = (k : Int) + 1 := wrap64 (by omega) (by omega)
        have e3 := all_take_succ l[j].vals (fun v => decide (0 ≤ v) && decide (v < most)) k hk
        by_cases v1 : 0 ≤ l[j].vals[k] ∧ l[j].vals[k] < most
        · obtain ⟨v1, v2⟩ := v1
          have v3 : ¬ l[j].vals[k] < 0 := by omega
          have v4 : ¬ most ≤ l[j].vals[k] := by omega
          have e4 : Hold (valsOk (l[j].vals.take (k + 1)) most = true) := by unfold Hold valsOk at *; rw [q8] at e3; simpa [v1, v2] using e3
          clear e3
          repeat' (first | (with_reducible refine T.sq fun K hK => ?_) | ((first | ((with_reducible refine T.reg hE ?hd ?_); (case hd => kernel_rfl)) | ((with_reducible refine T.any hE mixed ?hd ?hok ?_); (case hd => kernel_rfl); (case hok => kernel_rfl))); simp [*]; (repeat' (split; all_goals (rename_i hc; try simp [*])))) | ((with_reducible refine T.ret ?_); refine fin_pure ?_; simp [*]; try (change Hold _)) | (with_reducible refine T.block ?_) | ((with_reducible refine T.skip ?_); simp [*]) | ((with_reducible refine T.exit ?_); simp [*]) | ((with_reducible refine T.br fun K1 K2 hK1 hK2 => ?_); simp [*]; try ((refine Br.intro (fun hc => ?_) (fun hc => ?_)) <;> (try simp at hc))) | (with_reducible refine Cont.go (by assumption) _ ?_) | (with_reducible refine Cnt.go (by assumption) ?_))
          exact ⟨_, by omega, k + 1, rfl, by omega, by omega, e4⟩
        · have hf : valsOk l[j].vals most = false := List.all_eq_false.2 ⟨l[j].vals[k], by simp, by simp; omega⟩
          have hb := tbs_bad (size := size) (most := most) hj (by simp [tbOk, hf])
          clear e3
          by_cases v3 : l[j].vals[k] < 0
          · repeat' (first | (with_reducible refine T.sq fun K hK => ?_) | ((first | ((with_reducible refine T.reg hE ?hd ?_); (case hd => kernel_rfl)) | ((with_reducible refine T.any hE mixed ?hd ?hok ?_); (case hd => kernel_rfl); (case hok => kernel_rfl))); simp [*]; (repeat' (split; all_goals (rename_i hc; try simp [*])))) | ((with_reducible refine T.ret ?_); refine fin_pure ?_; simp [*]; try (change Hold _)) | (with_reducible refine T.block ?_) | ((with_reducible refine T.skip ?_); simp [*]) | ((with_reducible refine T.exit ?_); simp [*]) | ((with_reducible refine T.br fun K1 K2 hK1 hK2 => ?_); simp [*]; try ((refine Br.intro (fun hc => ?_) (fun hc => ?_)) <;> (try simp at hc))) | (with_reducible refine Cont.go (by assumption) _ ?_) | (with_reducible refine Cnt.go (by assumption) ?_))
            all_goals (unfold Hold; simp [*])
          · have v4 : most ≤ l[j].vals[k] := by omega
            repeat' (first | (with_reducible refine T.sq fun K hK => ?_) | ((first | ((with_reducible refine T.reg hE ?hd ?_); (case hd => kernel_rfl)) | ((with_reducible refine T.any hE mixed ?hd ?hok ?_); (case hd => kernel_rfl); (case hok => kernel_rfl))); simp [*]; (repeat' (split; all_goals (rename_i hc; try simp [*])))) | ((with_reducible refine T.ret ?_); refine fin_pure ?_; simp [*]; try (change Hold _)) | (with_reducible refine T.block ?_) | ((with_reducible refine T.skip ?_); simp [*]) | ((with_reducible refine T.exit ?_); simp [*]) | ((with_reducible refine T.br fun K1 K2 hK1 hK2 => ?_); simp [*]; try ((refine Br.intro (fun hc => ?_) (fun hc => ?_)) <;> (try simp at hc))) | (with_reducible refine Cont.go (by assumption) _ ?_) | (with_reducible refine Cnt.go (by assumption) ?_))
            all_goals (unfold Hold; simp [*])
      · have w8 : k = l[j].vals.length := by omega
        subst w8
        rw [List.take_length] at q8
        have v1 : tbOk l[j] size most = true := by unfold Hold at q8; simp [tbOk, *]
        clear hk
        have hmin : min j l.length = j := Nat.min_eq_left (by omega)
        have htk := rTb.encL_take l j
        repeat' (first | (with_reducible refine T.sq fun K hK => ?_) | ((first | ((with_reducible refine T.reg hE ?hd ?_); (case hd => kernel_rfl)) | ((with_reducible refine T.any hE mixed ?hd ?hok ?_); (case hd => kernel_rfl); (case hok => kernel_rfl))); simp [*]; (repeat' (split; all_goals (rename_i hc; try simp [*])))) | ((with_reducible refine T.ret ?_); refine fin_pure ?_; simp [*]; try (change Hold _)) | (with_reducible refine T.block ?_) | ((with_reducible refine T.skip ?_); simp [*]) | ((with_reducible refine T.exit ?_); simp [*]) | ((with_reducible refine T.br fun K1 K2 hK1 hK2 => ?_); simp [*]; try ((refine Br.intro (fun hc => ?_) (fun hc => ?_)) <;> (try simp at hc))) | (with_reducible refine Cont.go (by assumption) _ ?_) | (with_reducible refine Cnt.go (by assumption) ?_))
        refine T.loop (fun m σ => ∃ k : Nat, m = j - k ∧ σ.get 16 = .sl (rTb.encL l) .no ∧ σ.get 17 = .int .i64 l.length ∧ σ.get 18 = .int .i64 j ∧ σ.get 0 = .sl (rTb.encL l) .no ∧ σ.get 1 = .int .i64 size ∧ σ.get 2 = .int .i64 most ∧ σ.get 68 = .sl (rTb.encL (l.take j)) .no ∧ σ.get 69 = .int .i64 j ∧ σ.get 70 = .int .i64 k ∧ k ≤ j ∧ (∃ c, σ.get 8 = .ptr (c :: 10 :: q) 0 ∧ σ.M (c :: 10 :: q) = some (.cells (rTb.enc l[j]))) ∧ Hold (tbNew ((l.take j).take k) l[j] = true)) j ⟨0, by simp [*, Hold, tbNew]⟩ ?_
        clear g1 g2 g3 g4 g5 g6 q1 q2 q3 q4 q5 q6 q7 q8 hlen2
        rintro m σ ⟨k, rfl, g1, g2, g3, g4, g5, g6, q1, q2, q3, q4, ⟨id, q5, q6⟩, q7⟩
        rw [rTb_enc] at q6
        by_cases hk : k < j
        · have hkl : k < l.length := by omega
          have hw2 : IntKind.i64.wrap ((k : Int) + 1) = (k : Int) + 1 := wrap64 (by omega) (by omega)
          have ht : k < (l.take j).length := by simp; omega
          have c3 := all_take_succ (l.take j) (fun u => !(decide (u.id = l[j].id) && decide (u.args = l[j].args))) k ht
          rw [List.getElem_take] at c3
          by_cases w1 : l[k].id = l[j].id
          · by_cases w2 : l[k].args = l[j].args
            · have hb : tbNew (l.take j) l[j] = false := List.all_eq_false.2 ⟨l[k], by rw [← List.getElem_take (h := ht)]; exact List.getElem_mem ht, by simp [w1, w2]⟩
              clear c3 ht
              repeat' (first | (with_reducible refine T.sq fun K hK => ?_) | ((first | ((with_reducible refine T.reg hE ?hd ?_); (case hd => kernel_rfl)) | ((with_reducible refine T.any hE mixed ?hd ?hok ?_); (case hd => kernel_rfl); (case hok => kernel_rfl))); simp [*]; (repeat' (split; all_goals (rename_i hc; try simp [*])))) | ((with_reducible refine T.ret ?_); refine fin_pure ?_; simp [*]; try (change Hold _)) | (with_reducible refine T.block ?_) | ((with_reducible refine T.skip ?_); simp [*]) | ((with_reducible refine T.exit ?_); simp [*]) | ((with_reducible refine T.br fun K1 K2 hK1 hK2 => ?_); simp [*]; try ((refine Br.intro (fun hc => ?_) (fun hc => ?_)) <;> (try simp at hc))) | (with_reducible refine Cont.go (by assumption) _ ?_) | (with_reducible refine Cnt.go (by assumption) ?_))
              have := tbs_bad (size := size) (most := most) hj (by rw [hb, Bool.and_false])
              unfold Hold; simp [this]
            · have c4 : Hold (tbNew ((l.take j).take (k + 1)) l[j] = true) := by unfold Hold tbNew at *; rw [q7] at c3; simpa [w2] using c3
              clear c3 ht
              repeat' (first | (with_reducible refine T.sq fun K hK => ?_) | ((first | ((with_reducible refine T.reg hE ?hd ?_); (case hd => kernel_rfl)) | ((with_reducible refine T.any hE mixed ?hd ?hok ?_); (case hd => kernel_rfl); (case hok => kernel_rfl))); simp [*]; (repeat' (split; all_goals (rename_i hc; try simp [*])))) | ((with_reducible refine T.ret ?_); refine fin_pure ?_; simp [*]; try (change Hold _)) | (with_reducible refine T.block ?_) | ((with_reducible refine T.skip ?_); simp [*]) | ((with_reducible refine T.exit ?_); simp [*]) | ((with_reducible refine T.br fun K1 K2 hK1 hK2 => ?_); simp [*]; try ((refine Br.intro (fun hc => ?_) (fun hc => ?_)) <;> (try simp at hc))) | (with_reducible refine Cont.go (by assumption) _ ?_) | (with_reducible refine Cnt.go (by assumption) ?_))
              exact ⟨_, by omega, k + 1, rfl, by omega, by omega, c4⟩
          · have c4 : Hold (tbNew ((l.take j).take (k + 1)) l[j] = true) := by unfold Hold tbNew at *; rw [q7] at c3; simpa [w1] using c3
            clear c3 ht
            repeat' (first | (with_reducible refine T.sq fun K hK => ?_) | ((first | ((with_reducible refine T.reg hE ?hd ?_); (case hd => kernel_rfl)) | ((with_reducible refine T.any hE mixed ?hd ?hok ?_); (case hd => kernel_rfl); (case hok => kernel_rfl))); simp [*]; (repeat' (split; all_goals (rename_i hc; try simp [*])))) | ((with_reducible refine T.ret ?_); refine fin_pure ?_; simp [*]; try (change Hold _)) | (with_reducible refine T.block ?_) | ((with_reducible refine T.skip ?_); simp [*]) | ((with_reducible refine T.exit ?_); simp [*]) | ((with_reducible refine T.br fun K1 K2 hK1 hK2 => ?_); simp [*]; try ((refine Br.intro (fun hc => ?_) (fun hc => ?_)) <;> (try simp at hc))) | (with_reducible refine Cont.go (by assumption) _ ?_) | (with_reducible refine Cnt.go (by assumption) ?_))
            exact ⟨_, by omega, k + 1, rfl, by omega, by omega, c4⟩
        · have w8 : k = j := by omega
          subst w8
          have c4 := tbs_step hj g8 v1 (by unfold Hold at q7; rw [List.take_take, Nat.min_self] at q7; exact q7)
          have c5 : Hold (allOk l size most (k + 1) = true) := c4
          clear c4
          repeat' (first | (with_reducible refine T.sq fun K hK => ?_) | ((first | ((with_reducible refine T.reg hE ?hd ?_); (case hd => kernel_rfl)) | ((with_reducible refine T.any hE mixed ?hd ?hok ?_); (case hd => kernel_rfl); (case hok => kernel_rfl))); simp [*]; (repeat' (split; all_goals (rename_i hc; try simp [*])))) | ((with_reducible refine T.ret ?_); refine fin_pure ?_; simp [*]; try (change Hold _)) | (with_reducible refine T.block ?_) | ((with_reducible refine T.skip ?_); simp [*]) | ((with_reducible refine T.exit ?_); simp [*]) | ((with_reducible refine T.br fun K1 K2 hK1 hK2 => ?_); simp [*]; try ((refine Br.intro (fun hc => ?_) (fun hc => ?_)) <;> (try simp at hc))) | (with_reducible refine Cont.go (by assumption) _ ?_) | (with_reducible refine Cnt.go (by assumption) ?_))
          exact ⟨_, by omega, k + 1, rfl, by omega, by omega, c5⟩
    · have w8 : j = l.length := by omega
      subst w8
      repeat' (first | (with_reducible refine T.sq fun K hK => ?_) | ((first | ((with_reducible refine T.reg hE ?hd ?_); (case hd => kernel_rfl)) | ((with_reducible refine T.any hE mixed ?hd ?hok ?_); (case hd => kernel_rfl); (case hok => kernel_rfl))); simp [*]; (repeat' (split; all_goals (rename_i hc; try simp [*])))) | ((with_reducible refine T.ret ?_); refine fin_pure ?_; simp [*]; try (change Hold _)) | (with_reducible refine T.block ?_) | ((with_reducible refine T.skip ?_); simp [*]) | ((with_reducible refine T.exit ?_); simp [*]) | ((with_reducible refine T.br fun K1 K2 hK1 hK2 => ?_); simp [*]; try ((refine Br.intro (fun hc => ?_) (fun hc => ?_)) <;> (try simp at hc))) | (with_reducible refine Cont.go (by assumption) _ ?_) | (with_reducible refine Cnt.go (by assumption) ?_))
      unfold Hold at *
      simp [tbsOk, g8]; omega
  · cases hr
def worldE (w : Wo) : Int := if decide (1 ≤ w.size) && decide (w.size ≤ 3) && tbsOk w.funcs w.size w.size && tbsOk w.preds w.size 2 then 0 else 241
@[simp] def gWorld : List V → Option V := f1 (kRw rWo) fun w => some (.int .i64 (worldE w))
set_option maxHeartbeats 1000000 in
theorem ok_mRight : PureOk Try.prog 20 gWorld := by
  intro args r h
  obtain ⟨w, rfl, ⟨⟩⟩ := f1_inv h
  clear h
  have hE := ((EnvOk.nil (P := Try.prog) (eq := fun _ => false) (own := fun _ => false) (mem := fun _ => false) EqOk.none).addf ok_tables)
  refine ⟨⟨Try.f20, Try.func20, by decide, rfl⟩, pure_of_T Try.func20 rfl (by simp [Try.ntmps20]) fun q => ?_⟩
  by_cases c1 : w.size < 1
  · repeat' (first | (with_reducible refine T.sq fun K hK => ?_) | ((first | ((with_reducible refine T.reg hE ?hd ?_); (case hd => kernel_rfl)) | ((with_reducible refine T.any hE mixed ?hd ?hok ?_); (case hd => kernel_rfl); (case hok => kernel_rfl))); simp [*]; (repeat' (split; all_goals (rename_i hc; try simp [*])))) | ((with_reducible refine T.ret ?_); refine fin_pure ?_; simp [*]; try (change Hold _)) | (with_reducible refine T.block ?_) | ((with_reducible refine T.skip ?_); simp [*]) | ((with_reducible refine T.exit ?_); simp [*]) | ((with_reducible refine T.br fun K1 K2 hK1 hK2 => ?_); simp [*]; try ((refine Br.intro (fun hc => ?_) (fun hc => ?_)) <;> (try simp at hc))) | (with_reducible refine Cont.go (by assumption) _ ?_) | (with_reducible refine Cnt.go (by assumption) ?_))
    all_goals (unfold Hold; simp [worldE]; omega)
  by_cases c2 : 3 < w.size
  · repeat' (first | (with_reducible refine T.sq fun K hK => ?_) | ((first | ((with_reducible refine T.reg hE ?hd ?_); (case hd => kernel_rfl)) | ((with_reducible refine T.any hE mixed ?hd ?hok ?_); (case hd => kernel_rfl); (case hok => kernel_rfl))); simp [*]; (repeat' (split; all_goals (rename_i hc; try simp [*])))) | ((with_reducible refine T.ret ?_); refine fin_pure ?_; simp [*]; try (change Hold _)) | (with_reducible refine T.block ?_) | ((with_reducible refine T.skip ?_); simp [*]) | ((with_reducible refine T.exit ?_); simp [*]) | ((with_reducible refine T.br fun K1 K2 hK1 hK2 => ?_); simp [*]; try ((refine Br.intro (fun hc => ?_) (fun hc => ?_)) <;> (try simp at hc))) | (with_reducible refine Cont.go (by assumption) _ ?_) | (with_reducible refine Cnt.go (by assumption) ?_))
    all_goals (unfold Hold; simp [worldE]; omega)
  have c3 : 1 ≤ w.size := by omega
  have c4 : w.size ≤ 3 := by omega
  repeat' (first | (with_reducible refine T.sq fun K hK => ?_) | ((first | ((with_reducible refine T.reg hE ?hd ?_); (case hd => kernel_rfl)) | ((with_reducible refine T.any hE mixed ?hd ?hok ?_); (case hd => kernel_rfl); (case hok => kernel_rfl))); simp [*]; (repeat' (split; all_goals (rename_i hc; try simp [*])))) | ((with_reducible refine T.ret ?_); refine fin_pure ?_; simp [*]; try (change Hold _)) | (with_reducible refine T.block ?_) | ((with_reducible refine T.skip ?_); simp [*]) | ((with_reducible refine T.exit ?_); simp [*]) | ((with_reducible refine T.br fun K1 K2 hK1 hK2 => ?_); simp [*]; try ((refine Br.intro (fun hc => ?_) (fun hc => ?_)) <;> (try simp at hc))) | (with_reducible refine Cont.go (by assumption) _ ?_) | (with_reducible refine Cnt.go (by assumption) ?_))
  all_goals (unfold Hold; simp [worldE, *])
set_option maxHeartbeats 1000000 in
theorem ok_rmRight : PureOk Try.prog 11 gWorld := by
  intro args r h
  obtain ⟨w, rfl, ⟨⟩⟩ := f1_inv h
  clear h
  have hE := ((EnvOk.nil (P := Try.prog) (eq := fun _ => false) (own := fun _ => false) (mem := fun _ => false) EqOk.none).addf ok_rTables)
  refine ⟨⟨Try.f11, Try.func11, by decide, rfl⟩, pure_of_T Try.func11 rfl (by simp [Try.ntmps11]) fun q => ?_⟩
  by_cases c1 : w.size < 1
  · repeat' (first | (with_reducible refine T.sq fun K hK => ?_) | ((first | ((with_reducible refine T.reg hE ?hd ?_); (case hd => kernel_rfl)) | ((with_reducible refine T.any hE mixed ?hd ?hok ?_); (case hd => kernel_rfl); (case hok => kernel_rfl))); simp [*]; (repeat' (split; all_goals (rename_i hc; try simp [*])))) | ((with_reducible refine T.ret ?_); refine fin_pure ?_; simp [*]; try (change Hold _)) | (with_reducible refine T.block ?_) | ((with_reducible refine T.skip ?_); simp [*]) | ((with_reducible refine T.exit ?_); simp [*]) | ((with_reducible refine T.br fun K1 K2 hK1 hK2 => ?_); simp [*]; try ((refine Br.intro (fun hc => ?_) (fun hc => ?_)) <;> (try simp at hc))) | (with_reducible refine Cont.go (by assumption) _ ?_) | (with_reducible refine Cnt.go (by assumption) ?_))
    all_goals (unfold Hold; simp [worldE]; omega)
  by_cases c2 : 3 < w.size
  · repeat' (first | (with_reducible refine T.sq fun K hK => ?_) | ((first | ((with_reducible refine T.reg hE ?hd ?_); (case hd => kernel_rfl)) | ((with_reducible refine T.any hE mixed ?hd ?hok ?_); (case hd => kernel_rfl); (case hok => kernel_rfl))); simp [*]; (repeat' (split; all_goals (rename_i hc; try simp [*])))) | ((with_reducible refine T.ret ?_); refine fin_pure ?_; simp [*]; try (change Hold _)) | (with_reducible refine T.block ?_) | ((with_reducible refine T.skip ?_); simp [*]) | ((with_reducible refine T.exit ?_); simp [*]) | ((with_reducible refine T.br fun K1 K2 hK1 hK2 => ?_); simp [*]; try ((refine Br.intro (fun hc => ?_) (fun hc => ?_)) <;> (try simp at hc))) | (with_reducible refine Cont.go (by assumption) _ ?_) | (with_reducible refine Cnt.go (by assumption) ?_))
    all_goals (unfold Hold; simp [worldE]; omega)
  have c3 : 1 ≤ w.size := by omega
  have c4 : w.size ≤ 3 := by omega
  repeat' (first | (with_reducible refine T.sq fun K hK => ?_) | ((first | ((with_reducible refine T.reg hE ?hd ?_); (case hd => kernel_rfl)) | ((with_reducible refine T.any hE mixed ?hd ?hok ?_); (case hd => kernel_rfl); (case hok => kernel_rfl))); simp [*]; (repeat' (split; all_goals (rename_i hc; try simp [*])))) | ((with_reducible refine T.ret ?_); refine fin_pure ?_; simp [*]; try (change Hold _)) | (with_reducible refine T.block ?_) | ((with_reducible refine T.skip ?_); simp [*]) | ((with_reducible refine T.exit ?_); simp [*]) | ((with_reducible refine T.br fun K1 K2 hK1 hK2 => ?_); simp [*]; try ((refine Br.intro (fun hc => ?_) (fun hc => ?_)) <;> (try simp at hc))) | (with_reducible refine Cont.go (by assumption) _ ?_) | (with_reducible refine Cnt.go (by assumption) ?_))
  all_goals (unfold Hold; simp [worldE, *])
end Go.Proofs.Ytaacfmakfkaddaa.Ax
