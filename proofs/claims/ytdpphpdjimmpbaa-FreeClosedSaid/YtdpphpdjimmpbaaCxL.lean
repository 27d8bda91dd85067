/- The law FreeClosed, walked. -/
import Derived.Test.YtdpphpdjimmpbaaCxD
set_option linter.unusedVariables false
set_option linter.unusedSimpArgs false
namespace Go.Proofs.Ytdpphpdjimmpbaa.Ax
open Go Go.Proofs

theorem q_fr (x : Nat) (a : Ex) (i : Nat) : (frE (allQ (x : Int) a)).testBit i = ((frE a).testBit i && !decide (x = i)) := by
  unfold allQ
  rw [frE, frL, frL]; simp [binP, pw_bit]
theorem q_bo (x : Nat) (a : Ex) (i : Nat) : (boE (allQ (x : Int) a)).testBit i = ((boE a).testBit i || decide (x = i)) := by
  unfold allQ
  rw [boE, boL, boL]; simp [binP, pw_bit, Bool.or_comm]
theorem dn_fr (s : Nat) (a : Ex) (i : Nat) : ∀ j, j ≤ 64 → (frE (dnE s a j)).testBit i = ((frE a).testBit i && !(s.testBit i && decide (64 ≤ i + j) && decide (i < 64)))
  | 0, _ => by
    rw [dnE]
    by_cases h : i < 64
    · have : ¬ 64 ≤ i := by omega
      simp [this]
    · simp [h]
  | j + 1, h => by
    have ih := dn_fr s a i j (by omega)
    rw [dnE]
    by_cases e : 63 - j = i
    · have h1 : 64 ≤ i + (j + 1) := by omega
      have h2 : i < 64 := by omega
      have h3 : ¬ 64 ≤ i + j := by omega
      rw [e]
      split
      · rename_i c; rw [q_fr, ih]; simp [h1, h2, h3, c]
      · rename_i c; rw [ih]; simp [h1, h2, h3, c]
    · have h1 : (decide (64 ≤ i + (j + 1)) && decide (i < 64)) = (decide (64 ≤ i + j) && decide (i < 64)) := by
        by_cases q : i < 64
        · have : (64 ≤ i + (j + 1)) ↔ (64 ≤ i + j) := by omega
          simp [this]
        · simp [q]
      split
      · rw [q_fr, ih, Bool.and_assoc (s.testBit i), Bool.and_assoc (s.testBit i), h1]; simp [e]
      · rw [ih, Bool.and_assoc (s.testBit i), Bool.and_assoc (s.testBit i), h1]
theorem dn_bo (s : Nat) (a : Ex) (i : Nat) : ∀ j, j ≤ 64 → (boE (dnE s a j)).testBit i = ((boE a).testBit i || (s.testBit i && decide (64 ≤ i + j) && decide (i < 64)))
  | 0, _ => by
    rw [dnE]
    by_cases h : i < 64
    · have : ¬ 64 ≤ i := by omega
      simp [this]
    · simp [h]
  | j + 1, h => by
    have ih := dn_bo s a i j (by omega)
    rw [dnE]
    by_cases e : 63 - j = i
    · have h1 : 64 ≤ i + (j + 1) := by omega
      have h2 : i < 64 := by omega
      have h3 : ¬ 64 ≤ i + j := by omega
      rw [e]
      split
      · rename_i c; rw [q_bo, ih]; simp [h1, h2, h3, c]
      · rename_i c; rw [ih]; simp [h1, h2, h3, c]
    · have h1 : (decide (64 ≤ i + (j + 1)) && decide (i < 64)) = (decide (64 ≤ i + j) && decide (i < 64)) := by
        by_cases q : i < 64
        · have : (64 ≤ i + (j + 1)) ↔ (64 ≤ i + j) := by omega
          simp [this]
        · simp [q]
      split
      · rw [q_bo, ih, Bool.and_assoc (s.testBit i), Bool.and_assoc (s.testBit i), h1]; simp [e]
      · rw [ih, Bool.and_assoc (s.testBit i), Bool.and_assoc (s.testBit i), h1]
theorem dn_zero (a : Ex) : ∀ j, dnE 0 a j = a
  | 0 => by rw [dnE]
  | j + 1 => by rw [dnE, dn_zero a j]; simp
theorem dn_form (s : Nat) (a : Ex) (h : isT a = false) : ∀ j, isT (dnE s a j) = false
  | 0 => by rw [dnE]; exact h
  | j + 1 => by
    rw [dnE]; split
    · rfl
    · exact dn_form s a h j
theorem closed_law {a : Ex} (h : cloErr a = 0) : rightE a = 0 ∧ rightE (cloX a) = 0 ∧ frE (cloX a) = 0 ∧ boE (cloX a) = boE a ||| frE a ∧ cloErr (cloX a) = 0 ∧ cloX (cloX a) = cloX a := by
  have hx := clo_good h
  have hw : wantF a = 0 := by
    unfold cloErr at h
    split at h
    · rename_i c; exact absurd h c
    · rename_i c; omega
  have hr : rightE (dnE (frE a) a 64) = 0 := by unfold cloErr at h; rwa [if_neg (by omega)] at h
  obtain ⟨h1, h2⟩ := wantF_zero hw
  have hoa : allX a = true := (right_zero h1).2.2
  have hf : frE (dnE (frE a) a 64) = 0 := by
    apply Nat.eq_of_testBit_eq
    intro i
    rw [dn_fr (frE a) a i 64 (by omega), Nat.zero_testBit]
    by_cases q : i < 64
    · simp [q]
    · rw [bit_lt (frE_lt hoa) (by omega)]; rfl
  have hb : boE (dnE (frE a) a 64) = boE a ||| frE a := by
    apply Nat.eq_of_testBit_eq
    intro i
    rw [dn_bo (frE a) a i 64 (by omega), Nat.testBit_or]
    by_cases q : i < 64
    · simp [q]
    · rw [bit_lt (frE_lt hoa) (by omega)]; simp
  have ht := dn_form (frE a) a h2 64
  rw [hx]
  generalize dnE (frE a) a 64 = z at *
  have hwz : wantF z = 0 := by unfold wantF; rw [if_neg (by omega), ht]; rfl
  have hez : cloErr z = 0 := by unfold cloErr; rw [if_neg (by omega), hf, dn_zero]; exact hr
  exact ⟨h1, hr, hf, hb, hez, by rw [clo_good hez, hf, dn_zero]⟩
theorem setV_ok {F : Ex → Nat} {e : Ex} (h : rightE e = 0) : setV F e = .tup [.int .u64 (F e : Nat), .int .i64 0] := by rw [setV_eq, if_pos h, h]
set_option maxHeartbeats 1000000 in
theorem ok_FreeClosed : PureOk Try.prog 5 (f1 kE fun _ => some (.bool true)) := by
  intro args r h
  obtain ⟨a, rfl, ⟨⟩⟩ := f1_inv h
  clear h
  have hE := ((((((EnvOk.nil (P := Try.prog) (eq := fun _ => false) (own := fun _ => false) (mem := fun _ => false) EqOk.none).addf ok_Close).addf ok_rClose).addf ok_Free).addf ok_Bound).addf ok_rLike)
  refine ⟨⟨Try.f5, Try.func5, by decide, rfl⟩, pure_of_T Try.func5 rfl (by simp [Try.ntmps5]) fun q => ?_⟩
  by_cases c : cloErr a = 0
  · obtain ⟨h1, h2, h3, h4, h5, h6⟩ := closed_law c
    have hoa : allX a = true := (right_zero h1).2.2
    have s1 : setV frE (cloX a) = _ := setV_ok h2
    have s2 : setV frE a = _ := setV_ok h1
    have s3 : setV boE (cloX a) = _ := setV_ok h2
    have s4 : setV boE a = _ := setV_ok h1
    rw [h3] at s1
    rw [h4] at s3
    have hbt : bits .or .u64 (boE a : Nat) (frE a : Nat) = ((boE a ||| frE a : Nat) : Int) := bits_or rfl (by simpa [IntKind.bits] using boE_lt hoa) (by simpa [IntKind.bits] using frE_lt hoa)
    have ho := ordE_self (cloX a)
    clear h3 h4
    repeat' (first
      | (with_reducible refine T.sq fun K hK => ?_)
      | ((first | ((with_reducible refine T.reg hE ?hd ?_); (case hd => kernel_rfl)) | ((with_reducible refine T.any hE mixed ?hd ?hok ?_); (case hd => kernel_rfl); (case hok => kernel_rfl))); simp [*]; (repeat' (split; all_goals (rename_i hc; try simp [*]))))
      | ((with_reducible refine T.ret ?_); refine fin_pure ?_; simp [*]; try (change Hold _))
      | (with_reducible refine T.block ?_)
      | ((with_reducible refine T.skip ?_); simp [*])
      | ((with_reducible refine T.exit ?_); simp [*])
      | ((with_reducible refine T.br fun K1 K2 hK1 hK2 => ?_); simp [*]; try ((refine Br.intro (fun hc => ?_) (fun hc => ?_)) <;> (try simp at hc)))
      | (with_reducible refine Cont.go (by assumption) _ ?_)
      | (with_reducible refine Cnt.go (by assumption) ?_))
    all_goals (unfold Hold; first | rfl | (simp [*]; done))
  · repeat' (first
      | (with_reducible refine T.sq fun K hK => ?_)
      | ((first | ((with_reducible refine T.reg hE ?hd ?_); (case hd => kernel_rfl)) | ((with_reducible refine T.any hE mixed ?hd ?hok ?_); (case hd => kernel_rfl); (case hok => kernel_rfl))); simp [*]; (repeat' (split; all_goals (rename_i hc; try simp [*]))))
      | ((with_reducible refine T.ret ?_); refine fin_pure ?_; simp [*]; try (change Hold _))
      | (with_reducible refine T.block ?_)
      | ((with_reducible refine T.skip ?_); simp [*])
      | ((with_reducible refine T.exit ?_); simp [*])
      | ((with_reducible refine T.br fun K1 K2 hK1 hK2 => ?_); simp [*]; try ((refine Br.intro (fun hc => ?_) (fun hc => ?_)) <;> (try simp at hc)))
      | (with_reducible refine Cont.go (by assumption) _ ?_)
      | (with_reducible refine Cnt.go (by assumption) ?_))
    all_goals (unfold Hold; first | rfl | (simp [*]; done))
end Go.Proofs.Ytdpphpdjimmpbaa.Ax
