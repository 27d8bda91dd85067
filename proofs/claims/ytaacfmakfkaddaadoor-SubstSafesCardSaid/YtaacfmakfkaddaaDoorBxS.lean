/- Contracts: sets of bits. -/
import Derived.Test.YtaacfmakfkaddaaDoorPlE
set_option linter.unusedVariables false
set_option linter.unusedSimpArgs false
namespace Go.Proofs.YtaacfmakfkaddaaDoor.Ax
open Go Go.Proofs

theorem hasB_pw {s : Nat} {n : Int} (h0 : 0 ≤ n) (h1 : n < 64) : hasB s n = s.testBit n.toNat := by unfold hasB; simp [h0, h1]
@[simp] def gPow : List V → Option V := f1 (kI .i64) fun n => some (.int .u64 (powV n : Nat))
theorem ok_rPow : PureOk Tryd.prog 53 gPow := by
  intro args r h
  obtain ⟨n, rfl, ⟨⟩⟩ := f1_inv h
  clear h
  have hE := (EnvOk.nil (P := Tryd.prog) (eq := fun _ => false) (own := fun _ => false) (mem := fun _ => false) EqOk.none)
  refine ⟨⟨Tryd.f53, Tryd.func53, by decide, rfl⟩, pure_of_T Tryd.func53 rfl (by simp [Tryd.ntmps53]) fun q => ?_⟩
  by_cases c1 : n < 0
  · have hv : powV n = 0 := by unfold powV; rw [if_neg (by omega)]
    repeat' (first | (with_reducible refine T.sq fun K hK => ?_) | ((first | ((with_reducible refine T.reg hE ?hd ?_); (case hd => kernel_rfl)) | ((with_reducible refine T.any hE mixed ?hd ?hok ?_); (case hd => kernel_rfl); (case hok => kernel_rfl))); simp [*]; (repeat' (split; all_goals (rename_i hc; try simp [*])))) | ((with_reducible refine T.ret ?_); refine fin_pure ?_; simp [*]; try (change Hold _)) | (with_reducible refine T.block ?_) | ((with_reducible refine T.skip ?_); simp [*]) | ((with_reducible refine T.exit ?_); simp [*]) | ((with_reducible refine T.br fun K1 K2 hK1 hK2 => ?_); simp [*]; try ((refine Br.intro (fun hc => ?_) (fun hc => ?_)) <;> (try simp at hc))) | (with_reducible refine Cont.go (by assumption) _ ?_) | (with_reducible refine Cnt.go (by assumption) ?_))
  by_cases c2 : 63 < n
  · have hv : powV n = 0 := by unfold powV; rw [if_neg (by omega)]
    repeat' (first | (with_reducible refine T.sq fun K hK => ?_) | ((first | ((with_reducible refine T.reg hE ?hd ?_); (case hd => kernel_rfl)) | ((with_reducible refine T.any hE mixed ?hd ?hok ?_); (case hd => kernel_rfl); (case hok => kernel_rfl))); simp [*]; (repeat' (split; all_goals (rename_i hc; try simp [*])))) | ((with_reducible refine T.ret ?_); refine fin_pure ?_; simp [*]; try (change Hold _)) | (with_reducible refine T.block ?_) | ((with_reducible refine T.skip ?_); simp [*]) | ((with_reducible refine T.exit ?_); simp [*]) | ((with_reducible refine T.br fun K1 K2 hK1 hK2 => ?_); simp [*]; try ((refine Br.intro (fun hc => ?_) (fun hc => ?_)) <;> (try simp at hc))) | (with_reducible refine Cont.go (by assumption) _ ?_) | (with_reducible refine Cnt.go (by assumption) ?_))
  obtain ⟨m, rfl⟩ := Int.eq_ofNat_of_zero_le (show 0 ≤ n by omega)
  have hv : Hold (powV (m : Int) = pw m) := by unfold Hold powV; rw [if_pos (by omega)]; rfl
  repeat' (first | (with_reducible refine T.sq fun K hK => ?_) | ((first | ((with_reducible refine T.reg hE ?hd ?_); (case hd => kernel_rfl)) | ((with_reducible refine T.any hE mixed ?hd ?hok ?_); (case hd => kernel_rfl); (case hok => kernel_rfl))); simp [*]; (repeat' (split; all_goals (rename_i hc; try simp [*])))) | ((with_reducible refine T.ret ?_); refine fin_pure ?_; simp [*]; try (change Hold _)) | (with_reducible refine T.block ?_) | ((with_reducible refine T.skip ?_); simp [*]) | ((with_reducible refine T.exit ?_); simp [*]) | ((with_reducible refine T.br fun K1 K2 hK1 hK2 => ?_); simp [*]; try ((refine Br.intro (fun hc => ?_) (fun hc => ?_)) <;> (try simp at hc))) | (with_reducible refine Cont.go (by assumption) _ ?_) | (with_reducible refine Cnt.go (by assumption) ?_))
  refine T.loop (fun k σ => ∃ j : Nat, k = m - j ∧ σ.get 0 = .int .i64 m ∧ σ.get 4 = .int .i64 j ∧ j ≤ m ∧ σ.get 3 = .int .u64 (pw j : Nat)) m ⟨0, by simp [pw]⟩ ?_
  rintro k σ ⟨j, rfl, g1, g2, g3, g4⟩
  by_cases hj : j < m
  · have hw : IntKind.i64.wrap ((j : Int) + 1) = (j : Int) + 1 := wrap64 (by omega) (by omega)
    have hp := pw_lt (n := j + 1) (by omega)
    have hq : IntKind.u64.wrap ((pw j : Int) * 2) = (pw (j + 1) : Nat) := by
      rw [pw_succ] at *
      exact wrap64u hp
    repeat' (first | (with_reducible refine T.sq fun K hK => ?_) | ((first | ((with_reducible refine T.reg hE ?hd ?_); (case hd => kernel_rfl)) | ((with_reducible refine T.any hE mixed ?hd ?hok ?_); (case hd => kernel_rfl); (case hok => kernel_rfl))); simp [*]; (repeat' (split; all_goals (rename_i hc; try simp [*])))) | ((with_reducible refine T.ret ?_); refine fin_pure ?_; simp [*]; try (change Hold _)) | (with_reducible refine T.block ?_) | ((with_reducible refine T.skip ?_); simp [*]) | ((with_reducible refine T.exit ?_); simp [*]) | ((with_reducible refine T.br fun K1 K2 hK1 hK2 => ?_); simp [*]; try ((refine Br.intro (fun hc => ?_) (fun hc => ?_)) <;> (try simp at hc))) | (with_reducible refine Cont.go (by assumption) _ ?_) | (with_reducible refine Cnt.go (by assumption) ?_))
    exact ⟨m - (j + 1), by omega, j + 1, rfl, by omega, by omega, rfl⟩
  · have w8 : j = m := by omega
    subst w8
    repeat' (first | (with_reducible refine T.sq fun K hK => ?_) | ((first | ((with_reducible refine T.reg hE ?hd ?_); (case hd => kernel_rfl)) | ((with_reducible refine T.any hE mixed ?hd ?hok ?_); (case hd => kernel_rfl); (case hok => kernel_rfl))); simp [*]; (repeat' (split; all_goals (rename_i hc; try simp [*])))) | ((with_reducible refine T.ret ?_); refine fin_pure ?_; simp [*]; try (change Hold _)) | (with_reducible refine T.block ?_) | ((with_reducible refine T.skip ?_); simp [*]) | ((with_reducible refine T.exit ?_); simp [*]) | ((with_reducible refine T.br fun K1 K2 hK1 hK2 => ?_); simp [*]; try ((refine Br.intro (fun hc => ?_) (fun hc => ?_)) <;> (try simp at hc))) | (with_reducible refine Cont.go (by assumption) _ ?_) | (with_reducible refine Cnt.go (by assumption) ?_))
    unfold Hold at *; rw [hv]
@[simp] noncomputable def gHas : List V → Option V := f2 (kI .u64) (kI .i64) fun s n => if isU64 s then some (.bool (hasB s.toNat n)) else none
theorem tdiv_pw (s n : Nat) (hs : s < 18446744073709551616) : IntKind.u64.wrap ((s : Int) / (pw n : Nat)) = ((s / pw n : Nat) : Int) := by
  have e : (s : Int) / (pw n : Nat) = ((s / pw n : Nat) : Int) := rfl
  rw [e]; exact wrap64u (Nat.lt_of_le_of_lt (Nat.div_le_self _ _) hs)
theorem ok_rHas : PureOk Tryd.prog 55 gHas := by
  intro args r h
  obtain ⟨s, n, rfl, hr⟩ := f2_inv h; clear h
  split at hr
  · rename_i hs
    cases hr
    obtain ⟨s, rfl, hb⟩ := u64_of hs
    have hE := ((EnvOk.nil (P := Tryd.prog) (eq := fun _ => false) (own := fun _ => false) (mem := fun _ => false) EqOk.none).addf ok_rPow)
    refine ⟨⟨Tryd.f55, Tryd.func55, by decide, rfl⟩, pure_of_T Tryd.func55 rfl (by simp [Tryd.ntmps55]) fun q => ?_⟩
    by_cases c : 0 ≤ n ∧ n ≤ 63
    · have hp := pw_pos n.toNat
      have hv : powV n = pw n.toNat := by unfold powV; rw [if_pos c]
      have hv0 : ¬ pw n.toNat = 0 := by omega
      have hh : Hold (hasB s n = decide (s / pw n.toNat % 2 = 1)) := by unfold Hold; rw [hasB_pw c.1 (by omega)]; exact (dec_bit s n.toNat).symm
      have hd := tdiv_pw s n.toNat hb
      obtain ⟨d, hdd⟩ : ∃ d, d = s / pw n.toNat := ⟨_, rfl⟩
      rw [← hdd] at hd hh
      have hm : ((d : Int).tmod 2 = 1) = (d % 2 = 1) := by
        have : (d : Int).tmod 2 = ((d % 2 : Nat) : Int) := rfl
        rw [this]; exact propext ⟨by omega, by omega⟩
      clear c hp hdd
      repeat' (first | (with_reducible refine T.sq fun K hK => ?_) | ((first | ((with_reducible refine T.reg hE ?hd ?_); (case hd => kernel_rfl)) | ((with_reducible refine T.any hE mixed ?hd ?hok ?_); (case hd => kernel_rfl); (case hok => kernel_rfl))); simp [*]; (repeat' (split; all_goals (rename_i hc; try simp [*])))) | ((with_reducible refine T.ret ?_); refine fin_pure ?_; simp [*]; try (change Hold _)) | (with_reducible refine T.block ?_) | ((with_reducible refine T.skip ?_); simp [*]) | ((with_reducible refine T.exit ?_); simp [*]) | ((with_reducible refine T.br fun K1 K2 hK1 hK2 => ?_); simp [*]; try ((refine Br.intro (fun hc => ?_) (fun hc => ?_)) <;> (try simp at hc))) | (with_reducible refine Cont.go (by assumption) _ ?_) | (with_reducible refine Cnt.go (by assumption) ?_))
      all_goals (unfold Hold at *; rw [hh])
    · have hv : powV n = 0 := by unfold powV; rw [if_neg c]
      have hh : Hold (hasB s n = false) := by
        unfold Hold hasB
        by_cases h1 : 0 ≤ n
        · have h2 : ¬ n < 64 := by omega
          simp [h2]
        · simp [h1]
      clear c
      repeat' (first | (with_reducible refine T.sq fun K hK => ?_) | ((first | ((with_reducible refine T.reg hE ?hd ?_); (case hd => kernel_rfl)) | ((with_reducible refine T.any hE mixed ?hd ?hok ?_); (case hd => kernel_rfl); (case hok => kernel_rfl))); simp [*]; (repeat' (split; all_goals (rename_i hc; try simp [*])))) | ((with_reducible refine T.ret ?_); refine fin_pure ?_; simp [*]; try (change Hold _)) | (with_reducible refine T.block ?_) | ((with_reducible refine T.skip ?_); simp [*]) | ((with_reducible refine T.exit ?_); simp [*]) | ((with_reducible refine T.br fun K1 K2 hK1 hK2 => ?_); simp [*]; try ((refine Br.intro (fun hc => ?_) (fun hc => ?_)) <;> (try simp at hc))) | (with_reducible refine Cont.go (by assumption) _ ?_) | (with_reducible refine Cnt.go (by assumption) ?_))
      all_goals exact hh
  · cases hr
@[simp] noncomputable def gWith : List V → Option V := f2 (kI .u64) (kI .i64) fun s n => if isU64 s then some (.int .u64 (withN s.toNat n : Nat)) else none
theorem ok_rWith : PureOk Tryd.prog 56 gWith := by
  intro args r h
  obtain ⟨s, n, rfl, hr⟩ := f2_inv h; clear h
  split at hr
  · rename_i hs
    cases hr
    obtain ⟨s, rfl, hb⟩ := u64_of hs
    have hE := (((EnvOk.nil (P := Tryd.prog) (eq := fun _ => false) (own := fun _ => false) (mem := fun _ => false) EqOk.none).addf ok_rHas).addf ok_rPow)
    refine ⟨⟨Tryd.f56, Tryd.func56, by decide, rfl⟩, pure_of_T Tryd.func56 rfl (by simp [Tryd.ntmps56]) fun q => ?_⟩
    have hw := with_eq (s := s) (n := n)
    have hl := withN_lt (n := n) hb
    by_cases c : hasB s n = true
    · rw [if_pos c] at hw
      have hv : Hold (withN s n = s) := hw
      clear hw
      repeat' (first | (with_reducible refine T.sq fun K hK => ?_) | ((first | ((with_reducible refine T.reg hE ?hd ?_); (case hd => kernel_rfl)) | ((with_reducible refine T.any hE mixed ?hd ?hok ?_); (case hd => kernel_rfl); (case hok => kernel_rfl))); simp [*]; (repeat' (split; all_goals (rename_i hc; try simp [*])))) | ((with_reducible refine T.ret ?_); refine fin_pure ?_; simp [*]; try (change Hold _)) | (with_reducible refine T.block ?_) | ((with_reducible refine T.skip ?_); simp [*]) | ((with_reducible refine T.exit ?_); simp [*]) | ((with_reducible refine T.br fun K1 K2 hK1 hK2 => ?_); simp [*]; try ((refine Br.intro (fun hc => ?_) (fun hc => ?_)) <;> (try simp at hc))) | (with_reducible refine Cont.go (by assumption) _ ?_) | (with_reducible refine Cnt.go (by assumption) ?_))
      all_goals (unfold Hold at *; rw [hv])
    · rw [if_neg c] at hw
      have hv : Hold (withN s n = s + powV n) := hw
      have hu : IntKind.u64.wrap ((s : Int) + (powV n : Nat)) = (withN s n : Nat) := by rw [hw] at hl ⊢; exact wrap64u hl
      clear hw
      repeat' (first | (with_reducible refine T.sq fun K hK => ?_) | ((first | ((with_reducible refine T.reg hE ?hd ?_); (case hd => kernel_rfl)) | ((with_reducible refine T.any hE mixed ?hd ?hok ?_); (case hd => kernel_rfl); (case hok => kernel_rfl))); simp [*]; (repeat' (split; all_goals (rename_i hc; try simp [*])))) | ((with_reducible refine T.ret ?_); refine fin_pure ?_; simp [*]; try (change Hold _)) | (with_reducible refine T.block ?_) | ((with_reducible refine T.skip ?_); simp [*]) | ((with_reducible refine T.exit ?_); simp [*]) | ((with_reducible refine T.br fun K1 K2 hK1 hK2 => ?_); simp [*]; try ((refine Br.intro (fun hc => ?_) (fun hc => ?_)) <;> (try simp at hc))) | (with_reducible refine Cont.go (by assumption) _ ?_) | (with_reducible refine Cnt.go (by assumption) ?_))
  · cases hr
@[simp] noncomputable def gWithout : List V → Option V := f2 (kI .u64) (kI .i64) fun s n => if isU64 s then some (.int .u64 (withoutN s.toNat n : Nat)) else none
theorem powV_le {s : Nat} {n : Int} (h : hasB s n = true) : powV n ≤ s := by
  unfold powV
  split
  · unfold hasB at h
    simp only [Bool.and_eq_true] at h
    exact Nat.ge_two_pow_of_testBit h.2
  · omega
theorem ok_rWithout : PureOk Tryd.prog 24 gWithout := by
  intro args r h
  obtain ⟨s, n, rfl, hr⟩ := f2_inv h; clear h
  split at hr
  · rename_i hs
    cases hr
    obtain ⟨s, rfl, hb⟩ := u64_of hs
    have hE := (((EnvOk.nil (P := Tryd.prog) (eq := fun _ => false) (own := fun _ => false) (mem := fun _ => false) EqOk.none).addf ok_rHas).addf ok_rPow)
    refine ⟨⟨Tryd.f24, Tryd.func24, by decide, rfl⟩, pure_of_T Tryd.func24 rfl (by simp [Tryd.ntmps24]) fun q => ?_⟩
    have hw := without_eq (s := s) (n := n)
    have hl := withoutN_lt (n := n) hb
    by_cases c : hasB s n = true
    · rw [if_pos c] at hw
      have hv : Hold (withoutN s n = s - powV n) := hw
      have hle := powV_le c
      have hu : IntKind.u64.wrap ((s : Int) - (powV n : Nat)) = (withoutN s n : Nat) := by
        rw [hw] at hl ⊢
        rw [show (s : Int) - (powV n : Nat) = ((s - powV n : Nat) : Int) by omega]
        exact wrap64u hl
      clear hw hle
      repeat' (first | (with_reducible refine T.sq fun K hK => ?_) | ((first | ((with_reducible refine T.reg hE ?hd ?_); (case hd => kernel_rfl)) | ((with_reducible refine T.any hE mixed ?hd ?hok ?_); (case hd => kernel_rfl); (case hok => kernel_rfl))); simp [*]; (repeat' (split; all_goals (rename_i hc; try simp [*])))) | ((with_reducible refine T.ret ?_); refine fin_pure ?_; simp [*]; try (change Hold _)) | (with_reducible refine T.block ?_) | ((with_reducible refine T.skip ?_); simp [*]) | ((with_reducible refine T.exit ?_); simp [*]) | ((with_reducible refine T.br fun K1 K2 hK1 hK2 => ?_); simp [*]; try ((refine Br.intro (fun hc => ?_) (fun hc => ?_)) <;> (try simp at hc))) | (with_reducible refine Cont.go (by assumption) _ ?_) | (with_reducible refine Cnt.go (by assumption) ?_))
    · rw [if_neg c] at hw
      have hv : Hold (withoutN s n = s) := hw
      clear hw
      repeat' (first | (with_reducible refine T.sq fun K hK => ?_) | ((first | ((with_reducible refine T.reg hE ?hd ?_); (case hd => kernel_rfl)) | ((with_reducible refine T.any hE mixed ?hd ?hok ?_); (case hd => kernel_rfl); (case hok => kernel_rfl))); simp [*]; (repeat' (split; all_goals (rename_i hc; try simp [*])))) | ((with_reducible refine T.ret ?_); refine fin_pure ?_; simp [*]; try (change Hold _)) | (with_reducible refine T.block ?_) | ((with_reducible refine T.skip ?_); simp [*]) | ((with_reducible refine T.exit ?_); simp [*]) | ((with_reducible refine T.br fun K1 K2 hK1 hK2 => ?_); simp [*]; try ((refine Br.intro (fun hc => ?_) (fun hc => ?_)) <;> (try simp at hc))) | (with_reducible refine Cont.go (by assumption) _ ?_) | (with_reducible refine Cnt.go (by assumption) ?_))
      all_goals (unfold Hold at *; rw [hv])
  · cases hr
@[simp] noncomputable def gUnion : List V → Option V := f2 (kI .u64) (kI .u64) fun a b => if isU64 a ∧ isU64 b then some (.int .u64 (a.toNat ||| b.toNat : Nat)) else none
theorem ok_rUnion : PureOk Tryd.prog 23 gUnion := by
  intro args r h
  obtain ⟨a, b, rfl, hr⟩ := f2_inv h; clear h
  split at hr
  · rename_i hs
    cases hr
    obtain ⟨a, rfl, ha⟩ := u64_of hs.1
    obtain ⟨b, rfl, hb⟩ := u64_of hs.2
    obtain ⟨hs1, hs2⟩ := hs
    have hE := (((EnvOk.nil (P := Tryd.prog) (eq := fun _ => false) (own := fun _ => false) (mem := fun _ => false) EqOk.none).addf ok_rHas).addf ok_rWith)
    refine ⟨⟨Tryd.f23, Tryd.func23, by decide, rfl⟩, pure_of_T Tryd.func23 rfl (by simp [Tryd.ntmps23]) fun q => ?_⟩
    repeat' (first | (with_reducible refine T.sq fun K hK => ?_) | ((first | ((with_reducible refine T.reg hE ?hd ?_); (case hd => kernel_rfl)) | ((with_reducible refine T.any hE mixed ?hd ?hok ?_); (case hd => kernel_rfl); (case hok => kernel_rfl))); simp [*]; (repeat' (split; all_goals (rename_i hc; try simp [*])))) | ((with_reducible refine T.ret ?_); refine fin_pure ?_; simp [*]; try (change Hold _)) | (with_reducible refine T.block ?_) | ((with_reducible refine T.skip ?_); simp [*]) | ((with_reducible refine T.exit ?_); simp [*]) | ((with_reducible refine T.br fun K1 K2 hK1 hK2 => ?_); simp [*]; try ((refine Br.intro (fun hc => ?_) (fun hc => ?_)) <;> (try simp at hc))) | (with_reducible refine Cont.go (by assumption) _ ?_) | (with_reducible refine Cnt.go (by assumption) ?_))
    refine T.loop (fun k σ => ∃ (j s : Nat), k = 64 - j ∧ σ.get 1 = .int .u64 b ∧ σ.get 6 = .int .i64 j ∧ j ≤ 64 ∧ σ.get 5 = .int .u64 s ∧ s < 18446744073709551616 ∧ Hold (s = a ||| upTo b j)) 64 ⟨0, a, by simp, by simp, by simp, by omega, by simp, ha, by unfold Hold; rw [upTo_zero]; simp⟩ ?_
    rintro k σ ⟨j, s, rfl, g1, g2, g3, g4, g5, g6⟩
    have hs3 : isU64 (s : Int) := ⟨by omega, by omega⟩
    by_cases hj : (j : Int) < 64
    · have hw : IntKind.i64.wrap ((j : Int) + 1) = (j : Int) + 1 := wrap64 (by omega) (by omega)
      have hh : hasB b (j : Int) = b.testBit j := hasB_pw (by omega) hj
      have hu := upTo_succ b j
      by_cases v : b.testBit j = true
      · rw [if_pos v] at hu
        have hx : withN s (j : Int) = s ||| pw j := by unfold withN; rw [if_pos ⟨by omega, hj⟩]; rfl
        have hy : Hold (s ||| pw j = a ||| upTo b (j + 1)) := by unfold Hold at *; rw [hu, g6, Nat.or_assoc]
        have hl := or_lt g5 (pw_lt (n := j) (by omega))
        clear hu g6
        repeat' (first | (with_reducible refine T.sq fun K hK => ?_) | ((first | ((with_reducible refine T.reg hE ?hd ?_); (case hd => kernel_rfl)) | ((with_reducible refine T.any hE mixed ?hd ?hok ?_); (case hd => kernel_rfl); (case hok => kernel_rfl))); simp [*]; (repeat' (split; all_goals (rename_i hc; try simp [*])))) | ((with_reducible refine T.ret ?_); refine fin_pure ?_; simp [*]; try (change Hold _)) | (with_reducible refine T.block ?_) | ((with_reducible refine T.skip ?_); simp [*]) | ((with_reducible refine T.exit ?_); simp [*]) | ((with_reducible refine T.br fun K1 K2 hK1 hK2 => ?_); simp [*]; try ((refine Br.intro (fun hc => ?_) (fun hc => ?_)) <;> (try simp at hc))) | (with_reducible refine Cont.go (by assumption) _ ?_) | (with_reducible refine Cnt.go (by assumption) ?_))
        exact ⟨64 - (j + 1), by omega, j + 1, by omega, by omega, by omega, _, rfl, hl, hy⟩
      · rw [if_neg v] at hu
        have hy : Hold (s = a ||| upTo b (j + 1)) := by unfold Hold at *; rw [hu, g6]
        clear hu g6
        repeat' (first | (with_reducible refine T.sq fun K hK => ?_) | ((first | ((with_reducible refine T.reg hE ?hd ?_); (case hd => kernel_rfl)) | ((with_reducible refine T.any hE mixed ?hd ?hok ?_); (case hd => kernel_rfl); (case hok => kernel_rfl))); simp [*]; (repeat' (split; all_goals (rename_i hc; try simp [*])))) | ((with_reducible refine T.ret ?_); refine fin_pure ?_; simp [*]; try (change Hold _)) | (with_reducible refine T.block ?_) | ((with_reducible refine T.skip ?_); simp [*]) | ((with_reducible refine T.exit ?_); simp [*]) | ((with_reducible refine T.br fun K1 K2 hK1 hK2 => ?_); simp [*]; try ((refine Br.intro (fun hc => ?_) (fun hc => ?_)) <;> (try simp at hc))) | (with_reducible refine Cont.go (by assumption) _ ?_) | (with_reducible refine Cnt.go (by assumption) ?_))
        exact ⟨64 - (j + 1), by omega, j + 1, by omega, by omega, by omega, _, rfl, g5, hy⟩
    · have w8 : j = 64 := by omega
      subst w8
      rw [upTo_all hb] at g6
      repeat' (first | (with_reducible refine T.sq fun K hK => ?_) | ((first | ((with_reducible refine T.reg hE ?hd ?_); (case hd => kernel_rfl)) | ((with_reducible refine T.any hE mixed ?hd ?hok ?_); (case hd => kernel_rfl); (case hok => kernel_rfl))); simp [*]; (repeat' (split; all_goals (rename_i hc; try simp [*])))) | ((with_reducible refine T.ret ?_); refine fin_pure ?_; simp [*]; try (change Hold _)) | (with_reducible refine T.block ?_) | ((with_reducible refine T.skip ?_); simp [*]) | ((with_reducible refine T.exit ?_); simp [*]) | ((with_reducible refine T.br fun K1 K2 hK1 hK2 => ?_); simp [*]; try ((refine Br.intro (fun hc => ?_) (fun hc => ?_)) <;> (try simp at hc))) | (with_reducible refine Cont.go (by assumption) _ ?_) | (with_reducible refine Cnt.go (by assumption) ?_))
      all_goals (unfold Hold at *; rw [g6])
  · cases hr
theorem shl_pw {n : Nat} (h : n < 64) : IntKind.u64.wrap (2 ^ min n IntKind.u64.bits) = (pw n : Nat) := by
  have e : min n IntKind.u64.bits = n := Nat.min_eq_left (by simp [IntKind.bits]; omega)
  have e2 : (2 : Int) ^ n = ((pw n : Nat) : Int) := by unfold pw; simp
  rw [e, e2]
  exact wrap64u (pw_lt h)
def bitV (n : Int) : V := if 0 ≤ n ∧ n < 64 then .tup [.int .u64 (pw n.toNat : Nat), .bool true] else .tup [.int .u64 0, .bool false]
@[simp] def gBit : List V → Option V := f1 (kI .i64) fun n => some (bitV n)
theorem ok_wBit : PureOk Tryd.prog 109 gBit := by
  intro args r h
  obtain ⟨n, rfl, ⟨⟩⟩ := f1_inv h
  clear h
  have hE := (EnvOk.nil (P := Tryd.prog) (eq := fun _ => false) (own := fun _ => false) (mem := fun _ => false) EqOk.none)
  refine ⟨⟨Tryd.f109, Tryd.func109, by decide, rfl⟩, pure_of_T Tryd.func109 rfl (by simp [Tryd.ntmps109]) fun q => ?_⟩
  by_cases c1 : n < 0
  · have hv : Hold (bitV n = .tup [.int .u64 0, .bool false]) := by unfold Hold bitV; rw [if_neg (by omega)]
    repeat' (first | (with_reducible refine T.sq fun K hK => ?_) | ((first | ((with_reducible refine T.reg hE ?hd ?_); (case hd => kernel_rfl)) | ((with_reducible refine T.any hE mixed ?hd ?hok ?_); (case hd => kernel_rfl); (case hok => kernel_rfl))); simp [*]; (repeat' (split; all_goals (rename_i hc; try simp [*])))) | ((with_reducible refine T.ret ?_); refine fin_pure ?_; simp [*]; try (change Hold _)) | (with_reducible refine T.block ?_) | ((with_reducible refine T.skip ?_); simp [*]) | ((with_reducible refine T.exit ?_); simp [*]) | ((with_reducible refine T.br fun K1 K2 hK1 hK2 => ?_); simp [*]; try ((refine Br.intro (fun hc => ?_) (fun hc => ?_)) <;> (try simp at hc))) | (with_reducible refine Cont.go (by assumption) _ ?_) | (with_reducible refine Cnt.go (by assumption) ?_))
    all_goals (unfold Hold at *; rw [hv])
  by_cases c2 : 64 ≤ n
  · have hv : Hold (bitV n = .tup [.int .u64 0, .bool false]) := by unfold Hold bitV; rw [if_neg (by omega)]
    repeat' (first | (with_reducible refine T.sq fun K hK => ?_) | ((first | ((with_reducible refine T.reg hE ?hd ?_); (case hd => kernel_rfl)) | ((with_reducible refine T.any hE mixed ?hd ?hok ?_); (case hd => kernel_rfl); (case hok => kernel_rfl))); simp [*]; (repeat' (split; all_goals (rename_i hc; try simp [*])))) | ((with_reducible refine T.ret ?_); refine fin_pure ?_; simp [*]; try (change Hold _)) | (with_reducible refine T.block ?_) | ((with_reducible refine T.skip ?_); simp [*]) | ((with_reducible refine T.exit ?_); simp [*]) | ((with_reducible refine T.br fun K1 K2 hK1 hK2 => ?_); simp [*]; try ((refine Br.intro (fun hc => ?_) (fun hc => ?_)) <;> (try simp at hc))) | (with_reducible refine Cont.go (by assumption) _ ?_) | (with_reducible refine Cnt.go (by assumption) ?_))
    all_goals (unfold Hold at *; rw [hv])
  obtain ⟨m, rfl⟩ := Int.eq_ofNat_of_zero_le (show 0 ≤ n by omega)
  have hv : Hold (bitV (m : Int) = .tup [.int .u64 (pw m : Nat), .bool true]) := by unfold Hold bitV; rw [if_pos (by omega)]; rfl
  have hu := wrap64u (n := m) (by omega)
  have hs := shl_pw (n := m) (by omega)
  repeat' (first | (with_reducible refine T.sq fun K hK => ?_) | ((first | ((with_reducible refine T.reg hE ?hd ?_); (case hd => kernel_rfl)) | ((with_reducible refine T.any hE mixed ?hd ?hok ?_); (case hd => kernel_rfl); (case hok => kernel_rfl))); simp [*]; (repeat' (split; all_goals (rename_i hc; try simp [*])))) | ((with_reducible refine T.ret ?_); refine fin_pure ?_; simp [*]; try (change Hold _)) | (with_reducible refine T.block ?_) | ((with_reducible refine T.skip ?_); simp [*]) | ((with_reducible refine T.exit ?_); simp [*]) | ((with_reducible refine T.br fun K1 K2 hK1 hK2 => ?_); simp [*]; try ((refine Br.intro (fun hc => ?_) (fun hc => ?_)) <;> (try simp at hc))) | (with_reducible refine Cont.go (by assumption) _ ?_) | (with_reducible refine Cnt.go (by assumption) ?_))
  all_goals (unfold Hold at *; rw [hv])
theorem and_zero (s : Nat) (n : Nat) : (s &&& pw n = 0) = (s.testBit n = false) := by
  have := and_pow s n
  unfold pw
  rw [this]
  have hp := Nat.two_pow_pos n
  cases s.testBit n <;> simp <;> omega
theorem ok_wHas : PureOk Tryd.prog 80 gHas := by
  intro args r h
  obtain ⟨s, n, rfl, hr⟩ := f2_inv h; clear h
  split at hr
  · rename_i hs
    cases hr
    obtain ⟨s, rfl, hb⟩ := u64_of hs
    have hE := ((EnvOk.nil (P := Tryd.prog) (eq := fun _ => false) (own := fun _ => false) (mem := fun _ => false) EqOk.none).addf ok_wBit)
    refine ⟨⟨Tryd.f80, Tryd.func80, by decide, rfl⟩, pure_of_T Tryd.func80 rfl (by simp [Tryd.ntmps80]) fun q => ?_⟩
    by_cases c : 0 ≤ n ∧ n < 64
    · have hv : bitV n = .tup [.int .u64 (pw n.toNat : Nat), .bool true] := by unfold bitV; rw [if_pos c]
      have hh : Hold (hasB s n = s.testBit n.toNat) := hasB_pw c.1 c.2
      have ha := bits_and (k := .u64) rfl (a := s) (b := pw n.toNat) (by simpa [IntKind.bits] using hb) (by simpa [IntKind.bits] using pw_lt (n := n.toNat) (by omega))
      have hz := and_zero s n.toNat
      clear c
      repeat' (first | (with_reducible refine T.sq fun K hK => ?_) | ((first | ((with_reducible refine T.reg hE ?hd ?_); (case hd => kernel_rfl)) | ((with_reducible refine T.any hE mixed ?hd ?hok ?_); (case hd => kernel_rfl); (case hok => kernel_rfl))); simp [*]; (repeat' (split; all_goals (rename_i hc; try simp [*])))) | ((with_reducible refine T.ret ?_); refine fin_pure ?_; simp [*]; try (change Hold _)) | (with_reducible refine T.block ?_) | ((with_reducible refine T.skip ?_); simp [*]) | ((with_reducible refine T.exit ?_); simp [*]) | ((with_reducible refine T.br fun K1 K2 hK1 hK2 => ?_); simp [*]; try ((refine Br.intro (fun hc => ?_) (fun hc => ?_)) <;> (try simp at hc))) | (with_reducible refine Cont.go (by assumption) _ ?_) | (with_reducible refine Cnt.go (by assumption) ?_))
      all_goals (unfold Hold at *; rw [hh]; try (cases s.testBit n.toNat <;> simp))
    · have hv : bitV n = .tup [.int .u64 0, .bool false] := by unfold bitV; rw [if_neg c]
      have hh : Hold (hasB s n = false) := by
        unfold Hold hasB
        by_cases h1 : 0 ≤ n
        · have h2 : ¬ n < 64 := by omega
          simp [h2]
        · simp [h1]
      clear c
      repeat' (first | (with_reducible refine T.sq fun K hK => ?_) | ((first | ((with_reducible refine T.reg hE ?hd ?_); (case hd => kernel_rfl)) | ((with_reducible refine T.any hE mixed ?hd ?hok ?_); (case hd => kernel_rfl); (case hok => kernel_rfl))); simp [*]; (repeat' (split; all_goals (rename_i hc; try simp [*])))) | ((with_reducible refine T.ret ?_); refine fin_pure ?_; simp [*]; try (change Hold _)) | (with_reducible refine T.block ?_) | ((with_reducible refine T.skip ?_); simp [*]) | ((with_reducible refine T.exit ?_); simp [*]) | ((with_reducible refine T.br fun K1 K2 hK1 hK2 => ?_); simp [*]; try ((refine Br.intro (fun hc => ?_) (fun hc => ?_)) <;> (try simp at hc))) | (with_reducible refine Cont.go (by assumption) _ ?_) | (with_reducible refine Cnt.go (by assumption) ?_))
      all_goals exact hh
  · cases hr
end Go.Proofs.YtaacfmakfkaddaaDoor.Ax
