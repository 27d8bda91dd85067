/- Contracts: the least number that is none of a set's. -/
import Derived.Test.YtaacfmakfkaddaaDoorBxX
import Derived.Test.YtaacfmakfkaddaaDoorPlK
import Derived.Test.YtaacfmakfkaddaaDoorAxY
set_option linter.unusedVariables false
set_option linter.unusedSimpArgs false
namespace Go.Proofs.YtaacfmakfkaddaaDoor.Ax
open Go Go.Proofs

/-! ### The lowest bit of a word -/
theorem odd_and {m j : Nat} (h : m % 2 = 1) (hm : m < 2 ^ j) : m &&& (2 ^ j - m) = 1 := by
  apply Nat.eq_of_testBit_eq
  intro i
  have e : 2 ^ j - m = 2 ^ j - ((m - 1) + 1) := by omega
  rw [Nat.testBit_and, e, Nat.testBit_two_pow_sub_succ (by omega)]
  have hb : ∀ i, (m - 1).testBit i = (if i = 0 then false else m.testBit i) := fun i => by
    cases i with
    | zero => rw [if_pos rfl, Nat.testBit_zero]; simp; omega
    | succ i =>
      rw [if_neg (by omega), Nat.testBit_succ, Nat.testBit_succ]
      congr 1; omega
  rw [hb]
  cases i with
  | zero =>
    have hj : 0 < j := by
      cases j with
      | zero => simp at hm; omega
      | succ j => omega
    simp [Nat.testBit_zero, h, hj]
  | succ i =>
    rw [if_neg (by omega)]
    have : (1 : Nat).testBit (i + 1) = false := by rw [Nat.testBit_succ]; simp
    rw [this]
    cases m.testBit (i + 1) <;> simp
/-- A number's lowest bit. -/
theorem low_split (x : Nat) (h : 0 < x) (n : Nat) (hx : x < 2 ^ n) : ∃ k m, x = 2 ^ k * m ∧ m % 2 = 1 ∧ k < n := by
  induction n generalizing x with
  | zero => simp at hx; omega
  | succ n ih =>
    by_cases c : x % 2 = 1
    · exact ⟨0, x, by simp, c, by omega⟩
    · obtain ⟨k, m, h1, h2, h3⟩ := ih (x / 2) (by omega) (by rw [Nat.pow_succ] at hx; omega)
      refine ⟨k + 1, m, ?_, h2, by omega⟩
      rw [Nat.pow_succ, Nat.mul_right_comm, ← h1]; omega
theorem low_and {x k m : Nat} (hx : x < 2 ^ 64) (h1 : x = 2 ^ k * m) (h2 : m % 2 = 1) (h3 : k < 64) : x &&& (2 ^ 64 - x) = 2 ^ k := by
  have e : (2 : Nat) ^ 64 = 2 ^ k * 2 ^ (64 - k) := by rw [← Nat.pow_add]; congr 1; omega
  have hm : m < 2 ^ (64 - k) := by
    rw [h1, e] at hx
    exact Nat.lt_of_mul_lt_mul_left hx
  have e2 : 2 ^ 64 - x = (2 ^ (64 - k) - m) <<< k := by rw [Nat.shiftLeft_eq, h1, e, Nat.sub_mul, Nat.mul_comm m, Nat.mul_comm (2 ^ k)]
  have e3 : x = m <<< k := by rw [Nat.shiftLeft_eq, h1, Nat.mul_comm]
  rw [e2]
  conv => lhs; lhs; rw [e3]
  rw [← Nat.shiftLeft_and_distrib, odd_and h2 hm, Nat.one_shiftLeft]
theorem db_all : ∀ k : Nat, k < 64 → (2 ^ k * 285870213051353865 % 18446744073709551616 / 288230376151711744 < 64 ∧ (gtab 0)[2 ^ k * 285870213051353865 % 18446744073709551616 / 288230376151711744]? = some (k : Int)) := by decide
theorem low_bits {x k m : Nat} (h1 : x = 2 ^ k * m) (h2 : m % 2 = 1) : x.testBit k = true ∧ ∀ i, i < k → x.testBit i = false := by
  subst h1
  refine ⟨by rw [Nat.testBit_two_pow_mul]; simp [Nat.testBit_zero, h2], fun i hi => ?_⟩
  rw [Nat.testBit_two_pow_mul]; simp; omega
/-- What is none of a set's. -/
def cmpl (s : Nat) : Nat := 18446744073709551615 - s
theorem cmpl_bit {s : Nat} (h : s < 18446744073709551616) {i : Nat} (hi : i < 64) : (cmpl s).testBit i = !s.testBit i := by
  unfold cmpl
  rw [show 18446744073709551615 - s = 2 ^ 64 - (s + 1) by omega, Nat.testBit_two_pow_sub_succ (by simpa using h)]
  simp [hi]
theorem cmpl_lt (s : Nat) : cmpl s < 18446744073709551616 := by unfold cmpl; omega
theorem cmpl_cmpl {s : Nat} (h : s < 18446744073709551616) : cmpl (cmpl s) = s := by unfold cmpl; omega
theorem least_low {x k m : Nat} (hx : x < 2 ^ 64) (h1 : x = 2 ^ k * m) (h2 : m % 2 = 1) (h3 : k < 64) : leastN (cmpl x) = k := by
  obtain ⟨b1, b2⟩ := low_bits h1 h2
  rcases least_spec (cmpl x) with ⟨e, h⟩ | ⟨j, e, hj, hf, h⟩
  · have := h k h3
    rw [cmpl_bit (by simpa using hx) h3, b1] at this
    simp at this
  · rw [e]
    rw [cmpl_bit (by simpa using hx) hj] at hf
    have hjk : ¬ j < k := fun c => by rw [b2 j c] at hf; simp at hf
    have hkj : ¬ k < j := fun c => by
      have := h k c
      rw [cmpl_bit (by simpa using hx) h3, b1] at this
      simp at this
    congr 1; omega
theorem least_cmpl_zero : leastN (cmpl 0) = -1 := by
  rcases least_spec (cmpl 0) with ⟨e, _⟩ | ⟨j, e, hj, hf, _⟩
  · exact e
  · rw [cmpl_bit (by omega) hj] at hf; simp at hf
@[simp] noncomputable def gTz : List V → Option V := f1 (kI .u64) fun x => if isU64 x ∧ x ≠ 0 then some (.int .i64 (leastN (cmpl x.toNat))) else none
theorem e64 : (2 : Nat) ^ 64 = 18446744073709551616 := by decide
theorem low_and' {x k m : Nat} (hx : x < 18446744073709551616) (h1 : x = 2 ^ k * m) (h2 : m % 2 = 1) (h3 : k < 64) : x &&& (18446744073709551616 - x) = 2 ^ k := by
  have h := low_and (x := x) (by rw [e64]; exact hx) h1 h2 h3
  rw [e64] at h; exact h
theorem wrap_neg {x : Nat} (h0 : 0 < x) (hx : x < 18446744073709551616) : IntKind.u64.wrap (-(x : Int)) = ((18446744073709551616 - x : Nat) : Int) := by
  have e : IntKind.u64.wrap (-(x : Int)) = (-(x : Int)) % 18446744073709551616 := by
    unfold IntKind.wrap
    simp [IntKind.signed, IntKind.bits]
  rw [e]; omega
theorem tz_facts {x : Nat} (h0 : 0 < x) (hx : x < 18446744073709551616) :
    ∃ (ng : Nat) (pk : Nat) (pr : Nat) (b : Nat) (k : Nat) (cs : List V),
      IntKind.u64.wrap (-(x : Int)) = (ng : Int) ∧ bits .and .u64 (x : Int) (ng : Int) = (pk : Int) ∧
      IntKind.u64.wrap ((pk : Int) * 285870213051353865) = (pr : Int) ∧ (pr : Int).fdiv (2 ^ min 58 IntKind.u64.bits) = (b : Int) ∧
      (b : Int) < 64 ∧ b < 64 ∧ gval 0 = .cptr cs 0 ∧ cs.length = 64 ∧ cs[b]?.getD .junk = .int .u8 k ∧ (∀ h : b < cs.length, cs[b]'h = .int .u8 k) ∧
      leastN (cmpl x) = k ∧ IntKind.i64.wrap (k : Int) = k := by
  have hxp : x < 2 ^ 64 := by rw [e64]; exact hx
  obtain ⟨k, m, e1, e2, e3⟩ := low_split x h0 64 hxp
  have hl := least_low hxp e1 e2 e3
  obtain ⟨d1, d2⟩ := db_all k e3
  have hg : gval 0 = .cptr ((gtab 0).map (V.int .u8)) 0 := by
    unfold gval
    rw [if_neg (by decide)]
  have hget : ((gtab 0).map (V.int .u8))[2 ^ k * 285870213051353865 % 18446744073709551616 / 288230376151711744]? = some (.int .u8 k) := by
    rw [List.getElem?_map, d2]; rfl
  refine ⟨18446744073709551616 - x, 2 ^ k, 2 ^ k * 285870213051353865 % 18446744073709551616, 2 ^ k * 285870213051353865 % 18446744073709551616 / 288230376151711744, k, (gtab 0).map (V.int .u8),
    wrap_neg h0 hx, ?_, ?_, ?_, ?_, d1, hg, by rw [List.length_map]; rfl, by rw [hget]; rfl, fun h => ?_, hl, wrap64 (by omega) (by omega)⟩
  · have hand := bits_and (k := .u64) rfl (a := x) (b := 18446744073709551616 - x) (by rw [show IntKind.u64.bits = 64 from rfl, e64]; exact hx) (by rw [show IntKind.u64.bits = 64 from rfl, e64]; omega)
    rw [low_and' hx e1 e2 e3] at hand
    exact hand
  · have := wrapU_mod (k := .u64) rfl (2 ^ k * 285870213051353865)
    rw [show IntKind.u64.bits = 64 from rfl, e64, Int.natCast_mul] at this
    exact this
  · rw [show min 58 IntKind.u64.bits = 58 from rfl, show (2 : Int) ^ 58 = 288230376151711744 by decide, Int.fdiv_eq_ediv_of_nonneg _ (by omega)]
    omega
  · omega
  · rw [List.getElem?_eq_getElem h] at hget
    exact Option.some.inj hget
set_option maxHeartbeats 1000000 in
theorem ok_tz : PureOk Tryd.prog 123 gTz := by
  intro args r h
  obtain ⟨x, rfl, hr⟩ := f1_inv h; clear h
  split at hr
  · rename_i hm
    obtain ⟨hu, h0⟩ := hm
    cases hr
    obtain ⟨x, rfl, hx⟩ := u64_of hu
    have h0n : 0 < x := by omega
    have h0' : ¬ x = 0 := by omega
    obtain ⟨ng, pk, pr, b, k, cs, a1, a2, a3, a4, a5, a6, a7, a8, a9, a10, a11, a12⟩ := tz_facts h0n hx
    rw [Int.toNat_natCast, a11]
    have a13 : b < cs.length := by omega
    have a14 := a10 a13
    clear a10 a11 hu h0
    have hE := (EnvOk.nil (P := Tryd.prog) (eq := fun _ => false) (own := fun _ => false) (mem := fun _ => false) EqOk.none)
    obtain ⟨E, hE⟩ : ∃ E, EnvOk Tryd.prog E := ⟨_, hE⟩
    refine ⟨⟨Tryd.f123, Tryd.func123, by decide, rfl⟩, pure_of_T Tryd.func123 rfl (by simp [Tryd.ntmps123]) fun q => ?_⟩
    repeat' (first | (with_reducible refine T.sq fun K hK => ?_) | ((first | ((with_reducible refine T.reg hE ?hd ?_); (case hd => kernel_rfl)) | ((with_reducible refine T.any hE mixed ?hd ?hok ?_); (case hd => kernel_rfl); (case hok => kernel_rfl))); simp [*]; (repeat' (split; all_goals (rename_i hc; try simp [*])))) | ((with_reducible refine T.ret ?_); refine fin_pure ?_; simp [*]; try (change Hold _)) | (with_reducible refine T.block ?_) | ((with_reducible refine T.skip ?_); simp [*]) | ((with_reducible refine T.exit ?_); simp [*]) | ((with_reducible refine T.br fun K1 K2 hK1 hK2 => ?_); simp [*]; try ((refine Br.intro (fun hc => ?_) (fun hc => ?_)) <;> (try simp at hc))) | (with_reducible refine Cont.go (by assumption) _ ?_) | (with_reducible refine Cnt.go (by assumption) ?_))
  · cases hr
/-! ### The least number that is none of a set's -/
theorem xor_cmpl {s : Nat} (h : s < 18446744073709551616) : 18446744073709551615 ^^^ s = cmpl s := by
  have hs : s < 2 ^ 64 := by rw [e64]; exact h
  have e : (18446744073709551615 : Nat) = 2 ^ 64 - 1 := by rw [e64]
  apply Nat.eq_of_testBit_eq
  intro i
  rw [Nat.testBit_xor]
  conv => lhs; rw [e]
  rw [Nat.testBit_two_pow_sub_one]
  by_cases c : i < 64
  · rw [cmpl_bit h c]; simp [c]
  · have h1 : s.testBit i = false := Nat.testBit_lt_two_pow (Nat.lt_of_lt_of_le hs (Nat.pow_le_pow_right (by omega) (by omega)))
    have h2 : (cmpl s).testBit i = false := Nat.testBit_lt_two_pow (Nat.lt_of_lt_of_le (by rw [e64]; exact cmpl_lt s) (Nat.pow_le_pow_right (by omega) (show 64 ≤ i by omega)))
    rw [h1, h2]; simp [c]
theorem bits_xor {k : IntKind} (hk : k.signed = false) {a b : Nat} (ha : a < 2 ^ k.bits) (hb : b < 2 ^ k.bits) : bits .xor k (a : Int) (b : Int) = ((a ^^^ b : Nat) : Int) := by
  unfold bits
  simp only [BitVec.toNat_xor, bv_nat ha, bv_nat hb]
  exact wrapU hk (Nat.xor_lt_two_pow ha hb)
@[simp] noncomputable def gWLeast : List V → Option V := f1 (kI .u64) fun x => if isU64 x then some (.int .i64 (leastN (cmpl x.toNat))) else none
set_option maxHeartbeats 1000000 in
theorem ok_wLeast : PureOk Tryd.prog 108 gWLeast := by
  intro args r h
  obtain ⟨x, rfl, hr⟩ := f1_inv h; clear h
  split at hr
  · rename_i hu
    cases hr
    obtain ⟨x, rfl, hx⟩ := u64_of hu
    simp only [Int.toNat_natCast] at *
    have hE := ((EnvOk.nil (P := Tryd.prog) (eq := fun _ => false) (own := fun _ => false) (mem := fun _ => false) EqOk.none).addf ok_tz)
    refine ⟨⟨Tryd.f108, Tryd.func108, by decide, rfl⟩, pure_of_T Tryd.func108 rfl (by simp [Tryd.ntmps108]) fun q => ?_⟩
    by_cases c : x = 0
    · subst c
      have hl := least_cmpl_zero
      have hl2 : Hold (leastN (cmpl 0) = -1) := hl
      clear hl
      repeat' (first | (with_reducible refine T.sq fun K hK => ?_) | ((first | ((with_reducible refine T.reg hE ?hd ?_); (case hd => kernel_rfl)) | ((with_reducible refine T.any hE mixed ?hd ?hok ?_); (case hd => kernel_rfl); (case hok => kernel_rfl))); simp [*]; (repeat' (split; all_goals (rename_i hc; try simp [*])))) | ((with_reducible refine T.ret ?_); refine fin_pure ?_; simp [*]; try (change Hold _)) | (with_reducible refine T.block ?_) | ((with_reducible refine T.skip ?_); simp [*]) | ((with_reducible refine T.exit ?_); simp [*]) | ((with_reducible refine T.br fun K1 K2 hK1 hK2 => ?_); simp [*]; try ((refine Br.intro (fun hc => ?_) (fun hc => ?_)) <;> (try simp at hc))) | (with_reducible refine Cont.go (by assumption) _ ?_) | (with_reducible refine Cnt.go (by assumption) ?_))
      all_goals (unfold Hold at *; rw [hl2])
    · repeat' (first | (with_reducible refine T.sq fun K hK => ?_) | ((first | ((with_reducible refine T.reg hE ?hd ?_); (case hd => kernel_rfl)) | ((with_reducible refine T.any hE mixed ?hd ?hok ?_); (case hd => kernel_rfl); (case hok => kernel_rfl))); simp [*]; (repeat' (split; all_goals (rename_i hc; try simp [*])))) | ((with_reducible refine T.ret ?_); refine fin_pure ?_; simp [*]; try (change Hold _)) | (with_reducible refine T.block ?_) | ((with_reducible refine T.skip ?_); simp [*]) | ((with_reducible refine T.exit ?_); simp [*]) | ((with_reducible refine T.br fun K1 K2 hK1 hK2 => ?_); simp [*]; try ((refine Br.intro (fun hc => ?_) (fun hc => ?_)) <;> (try simp at hc))) | (with_reducible refine Cont.go (by assumption) _ ?_) | (with_reducible refine Cnt.go (by assumption) ?_))
  · cases hr
def lsV (s : Nat) : V := .tup [.int .i64 (leastN s), .bool (decide (0 ≤ leastN s))]
@[simp] noncomputable def gSLeast : List V → Option V := f1 (kI .u64) fun x => if isU64 x then some (lsV x.toNat) else none
set_option maxHeartbeats 1000000 in
theorem ok_sLeast : PureOk Tryd.prog 68 gSLeast := by
  intro args r h
  obtain ⟨x, rfl, hr⟩ := f1_inv h; clear h
  split at hr
  · rename_i hu
    cases hr
    obtain ⟨x, rfl, hx⟩ := u64_of hu
    simp only [Int.toNat_natCast] at *
    have hb : bits .xor .u64 IntKind.u64.max ((x : Nat) : Int) = ((cmpl x : Nat) : Int) := by
      have := bits_xor (k := .u64) rfl (a := 18446744073709551615) (b := x) (by rw [show IntKind.u64.bits = 64 from rfl, e64]; omega) (by rw [show IntKind.u64.bits = 64 from rfl, e64]; exact hx)
      rw [xor_cmpl hx] at this
      exact this
    have hcu := u64_nat (cmpl_lt x)
    have hcc := cmpl_cmpl hx
    have hsg : IntKind.u64.signed = false := rfl
    have hlv : Hold (lsV x = .tup [.int .i64 (leastN x), .bool (decide (0 ≤ leastN x))]) := rfl
    have hE := ((EnvOk.nil (P := Tryd.prog) (eq := fun _ => false) (own := fun _ => false) (mem := fun _ => false) EqOk.none).addf ok_wLeast)
    refine ⟨⟨Tryd.f68, Tryd.func68, by decide, rfl⟩, pure_of_T Tryd.func68 rfl (by simp [Tryd.ntmps68]) fun q => ?_⟩
    repeat' (first | (with_reducible refine T.sq fun K hK => ?_) | ((first | ((with_reducible refine T.reg hE ?hd ?_); (case hd => kernel_rfl)) | ((with_reducible refine T.any hE mixed ?hd ?hok ?_); (case hd => kernel_rfl); (case hok => kernel_rfl))); simp [*]; (repeat' (split; all_goals (rename_i hc; try simp [*])))) | ((with_reducible refine T.ret ?_); refine fin_pure ?_; simp [*]; try (change Hold _)) | (with_reducible refine T.block ?_) | ((with_reducible refine T.skip ?_); simp [*]) | ((with_reducible refine T.exit ?_); simp [*]) | ((with_reducible refine T.br fun K1 K2 hK1 hK2 => ?_); simp [*]; try ((refine Br.intro (fun hc => ?_) (fun hc => ?_)) <;> (try simp at hc))) | (with_reducible refine Cont.go (by assumption) _ ?_) | (with_reducible refine Cnt.go (by assumption) ?_))
    all_goals (unfold Hold at *; rw [hlv])
  · cases hr
@[simp] noncomputable def gRLeast : List V → Option V := f1 (kI .u64) fun x => if isU64 x then some (.int .i64 (leastN x.toNat)) else none
theorem least_at {s z : Nat} (hz : z < 64) (h : ∀ i, i < z → s.testBit i = true) (hf : s.testBit z = false) : leastN s = z := by
  rcases least_spec s with ⟨e, h2⟩ | ⟨j, e, hj, hjf, h2⟩
  · rw [h2 z hz] at hf; cases hf
  · have h3 : ¬ j < z := fun c => by rw [h j c] at hjf; cases hjf
    have h4 : ¬ z < j := fun c => by rw [h2 z c] at hf; cases hf
    rw [e]; congr 1; omega
theorem least_none {s : Nat} (h : ∀ i, i < 64 → s.testBit i = true) : leastN s = -1 := by
  rcases least_spec s with ⟨e, h2⟩ | ⟨j, e, hj, hjf, h2⟩
  · exact e
  · rw [h j hj] at hjf; cases hjf
def UpTo (s j : Nat) : Prop := ∀ i, i < j → s.testBit i = true
set_option maxHeartbeats 1000000 in
theorem ok_rLeast : PureOk Tryd.prog 71 gRLeast := by
  intro args r h
  obtain ⟨x, rfl, hr⟩ := f1_inv h; clear h
  split at hr
  · rename_i hu
    cases hr
    obtain ⟨s, rfl, hx⟩ := u64_of hu
    simp only [Int.toNat_natCast] at *
    have hE := ((EnvOk.nil (P := Tryd.prog) (eq := fun _ => false) (own := fun _ => false) (mem := fun _ => false) EqOk.none).addf ok_rHas)
    refine ⟨⟨Tryd.f71, Tryd.func71, by decide, rfl⟩, pure_of_T Tryd.func71 rfl (by simp [Tryd.ntmps71]) fun q => ?_⟩
    repeat' (first | (with_reducible refine T.sq fun K hK => ?_) | ((first | ((with_reducible refine T.reg hE ?hd ?_); (case hd => kernel_rfl)) | ((with_reducible refine T.any hE mixed ?hd ?hok ?_); (case hd => kernel_rfl); (case hok => kernel_rfl))); simp [*]; (repeat' (split; all_goals (rename_i hc; try simp [*])))) | ((with_reducible refine T.ret ?_); refine fin_pure ?_; simp [*]; try (change Hold _)) | (with_reducible refine T.block ?_) | ((with_reducible refine T.skip ?_); simp [*]) | ((with_reducible refine T.exit ?_); simp [*]) | ((with_reducible refine T.br fun K1 K2 hK1 hK2 => ?_); simp [*]; try ((refine Br.intro (fun hc => ?_) (fun hc => ?_)) <;> (try simp at hc))) | (with_reducible refine Cont.go (by assumption) _ ?_) | (with_reducible refine Cnt.go (by assumption) ?_))
    refine T.loop (fun n σ => ∃ j : Nat, n = 64 - j ∧ σ.get 0 = .int .u64 (s : Nat) ∧ σ.get 3 = .int .i64 j ∧ j ≤ 64 ∧ Hold (UpTo s j)) 64 ⟨0, by simp [*, Hold, UpTo]⟩ ?_
    rintro n σ ⟨j, rfl, g1, g2, g3, g4⟩
    by_cases hj : j < 64
    · have hji : (j : Int) < 64 := by omega
      have hw : IntKind.i64.wrap ((j : Int) + 1) = (j : Int) + 1 := wrap64 (by omega) (by omega)
      by_cases c : hasB s (j : Int) = true
      · have hn : Hold (UpTo s (j + 1)) := by
          rw [hasB_pw (by omega) hji, Int.toNat_natCast] at c
          intro i hi
          by_cases e : i = j
          · rw [e]; exact c
          · exact g4 i (by omega)
        clear g4
        repeat' (first | (with_reducible refine T.sq fun K hK => ?_) | ((first | ((with_reducible refine T.reg hE ?hd ?_); (case hd => kernel_rfl)) | ((with_reducible refine T.any hE mixed ?hd ?hok ?_); (case hd => kernel_rfl); (case hok => kernel_rfl))); simp [*]; (repeat' (split; all_goals (rename_i hc; try simp [*])))) | ((with_reducible refine T.ret ?_); refine fin_pure ?_; simp [*]; try (change Hold _)) | (with_reducible refine T.block ?_) | ((with_reducible refine T.skip ?_); simp [*]) | ((with_reducible refine T.exit ?_); simp [*]) | ((with_reducible refine T.br fun K1 K2 hK1 hK2 => ?_); simp [*]; try ((refine Br.intro (fun hc => ?_) (fun hc => ?_)) <;> (try simp at hc))) | (with_reducible refine Cont.go (by assumption) _ ?_) | (with_reducible refine Cnt.go (by assumption) ?_))
        exact ⟨_, by omega, j + 1, rfl, by omega, by omega, hn⟩
      · have hn : Hold (leastN s = j) := by
          rw [hasB_pw (by omega) hji, Int.toNat_natCast, Bool.not_eq_true] at c
          exact least_at hj g4 c
        clear g4
        rw [Bool.not_eq_true] at c
        repeat' (first | (with_reducible refine T.sq fun K hK => ?_) | ((first | ((with_reducible refine T.reg hE ?hd ?_); (case hd => kernel_rfl)) | ((with_reducible refine T.any hE mixed ?hd ?hok ?_); (case hd => kernel_rfl); (case hok => kernel_rfl))); simp [*]; (repeat' (split; all_goals (rename_i hc; try simp [*])))) | ((with_reducible refine T.ret ?_); refine fin_pure ?_; simp [*]; try (change Hold _)) | (with_reducible refine T.block ?_) | ((with_reducible refine T.skip ?_); simp [*]) | ((with_reducible refine T.exit ?_); simp [*]) | ((with_reducible refine T.br fun K1 K2 hK1 hK2 => ?_); simp [*]; try ((refine Br.intro (fun hc => ?_) (fun hc => ?_)) <;> (try simp at hc))) | (with_reducible refine Cont.go (by assumption) _ ?_) | (with_reducible refine Cnt.go (by assumption) ?_))
        all_goals (unfold Hold at *; rw [hn])
    · have w8 : j = 64 := by omega
      have hn : Hold (leastN s = -1) := least_none (by rw [w8] at g4; exact g4)
      have hji : ¬ (j : Int) < 64 := by omega
      clear g4
      repeat' (first | (with_reducible refine T.sq fun K hK => ?_) | ((first | ((with_reducible refine T.reg hE ?hd ?_); (case hd => kernel_rfl)) | ((with_reducible refine T.any hE mixed ?hd ?hok ?_); (case hd => kernel_rfl); (case hok => kernel_rfl))); simp [*]; (repeat' (split; all_goals (rename_i hc; try simp [*])))) | ((with_reducible refine T.ret ?_); refine fin_pure ?_; simp [*]; try (change Hold _)) | (with_reducible refine T.block ?_) | ((with_reducible refine T.skip ?_); simp [*]) | ((with_reducible refine T.exit ?_); simp [*]) | ((with_reducible refine T.br fun K1 K2 hK1 hK2 => ?_); simp [*]; try ((refine Br.intro (fun hc => ?_) (fun hc => ?_)) <;> (try simp at hc))) | (with_reducible refine Cont.go (by assumption) _ ?_) | (with_reducible refine Cnt.go (by assumption) ?_))
      all_goals (unfold Hold at *; rw [hn])
  · cases hr
end Go.Proofs.YtaacfmakfkaddaaDoor.Ax
