/- Contracts: numbers in sevens are read; heads are unpacked. -/
import Derived.Test.YtdpphpdjimmpbaaBxJ
import Derived.Test.YtdpphpdjimmpbaaBxK
set_option linter.unusedVariables false
set_option linter.unusedSimpArgs false
namespace Go.Proofs.Ytdpphpdjimmpbaa.Ax
open Go Go.Proofs

/-- A number in sevens: its value, how many bytes it has, why not. -/
def getS : List Int → Nat → Nat → Nat × Nat × Int
  | [], _, _ => (0, 0, 10)
  | c :: l, i, n => if i = 9 ∧ 1 < c then (0, 0, 11) else if c < 128 then (if c = 0 ∧ 0 < i then (0, 0, 11) else (n + c.toNat * 128 ^ i, i + 1, 0)) else getS l (i + 1) (n + (c.toNat % 128) * 128 ^ i)
def byt (l : List Int) : Prop := ∀ c ∈ l, 0 ≤ c ∧ c < 256
noncomputable instance (l : List Int) : Decidable (byt l) := Classical.propDecidable _
def getV (l : List Int) : V := .tup [.int .u64 ((getS l 0 0).1 : Nat), .int .i64 ((getS l 0 0).2.1 : Nat), .int .i64 (getS l 0 0).2.2]
@[simp] noncomputable def gGet : List V → Option V := f1 (kIs .u8) fun l => if byt l then some (getV l) else none
theorem get_drop (l : List Int) (j i n : Nat) (h : j < l.length) : getS (l.drop j) i n = if i = 9 ∧ 1 < l[j] then (0, 0, 11) else if l[j] < 128 then (if l[j] = 0 ∧ 0 < i then (0, 0, 11) else (n + l[j].toNat * 128 ^ i, i + 1, 0)) else getS (l.drop (j + 1)) (i + 1) (n + (l[j].toNat % 128) * 128 ^ i) := by
  rw [List.drop_eq_getElem_cons h, getS]
def lowN (c : Nat) : Nat := c % 128
/-- Seven bits at their place. -/
def sevN (c j : Nat) : Nat := (c % 128) * 128 ^ j
theorem pow128 (j : Nat) : (128 : Nat) ^ j = 2 ^ (7 * j) := by rw [Nat.pow_mul]
theorem sev_lt64 {c j : Nat} (hj : j ≤ 9) (hc : j = 9 → c ≤ 1) : sevN c j < 18446744073709551616 := by
  unfold sevN
  by_cases h : j = 9
  · subst h
    have := hc rfl
    have : c % 128 ≤ 1 := by omega
    have := Nat.mul_le_mul_right (128 ^ 9) this
    omega
  · have h1 : c % 128 ≤ 127 := by omega
    have h2 : 128 ^ j ≤ 128 ^ 8 := Nat.pow_le_pow_right (by omega) (by omega)
    have h3 := Nat.mul_le_mul h1 h2
    omega
theorem sev_or {n c j : Nat} (hn : n < 128 ^ j) : n ||| sevN c j = n + sevN c j := by
  unfold sevN
  rw [pow128] at *
  have := Nat.two_pow_add_eq_or_of_lt hn (c % 128)
  rw [Nat.or_comm, Nat.mul_comm, ← this, Nat.add_comm]
theorem sev_add_lt {n c j : Nat} (hn : n < 128 ^ j) : n + sevN c j < 128 ^ (j + 1) := by
  unfold sevN
  have h1 : c % 128 ≤ 127 := by omega
  have := Nat.mul_le_mul_right (128 ^ j) h1
  rw [Nat.pow_succ]; omega
theorem sev_add_lt64 {n c j : Nat} (hn : n < 128 ^ j) (hj : j ≤ 9) (hc : j = 9 → c ≤ 1) : n + sevN c j < 18446744073709551616 := by
  by_cases h : j = 9
  · subst h
    have h1 := hc rfl
    unfold sevN
    have h2 : c % 128 ≤ 1 := by omega
    have := Nat.mul_le_mul_right (128 ^ 9) h2
    omega
  · have := sev_add_lt (c := c) hn
    have h2 : 128 ^ (j + 1) ≤ 128 ^ 9 := Nat.pow_le_pow_right (by omega) (by omega)
    omega
theorem and127 {c : Nat} (h : c < 256) : bits .and .u8 (c : Int) 127 = ((lowN c : Nat) : Int) := by
  have := bits_and (k := .u8) rfl (a := c) (b := 127) (by simpa [IntKind.bits] using h) (by simp [IntKind.bits])
  rw [show ((127 : Nat) : Int) = 127 from rfl] at this
  rw [this, show (127 : Nat) = 2 ^ 7 - 1 by decide, Nat.and_two_pow_sub_one_eq_mod]; rfl
theorem get_ext {l : List Int} {a b : Nat} {c : Int} (h : getS l 0 0 = (a, b, c)) : getV l = .tup [.int .u64 (a : Nat), .int .i64 (b : Nat), .int .i64 c] := by unfold getV; rw [h]
set_option maxHeartbeats 1000000 in
theorem ok_wGet : PureOk Try.prog 123 gGet := by
  intro args r h
  obtain ⟨l, rfl, hr⟩ := f1_inv h; clear h
  split at hr
  · rename_i hm
    cases hr
    have hE := (EnvOk.nil (P := Try.prog) (eq := fun _ => false) (own := fun _ => false) (mem := fun _ => false) EqOk.none)
    refine ⟨⟨Try.f123, Try.func123, by decide, rfl⟩, pure_of_T Try.func123 rfl (by simp [Try.ntmps123]) fun q => ?_⟩
    repeat' (first
      | (with_reducible refine T.sq fun K hK => ?_)
      | ((first | ((with_reducible refine T.reg hE ?hd ?_); (case hd => kernel_rfl)) | ((with_reducible refine T.any hE mixed ?hd ?hok ?_); (case hd => kernel_rfl); (case hok => kernel_rfl))); simp [*]; (repeat' (split; all_goals (rename_i hc; try simp [*]))))
      | ((with_reducible refine T.ret ?_); refine fin_pure ?_; simp [*]; try (change Hold _))
      | (with_reducible refine T.block ?_)
      | ((with_reducible refine T.skip ?_); simp [*])
      | ((with_reducible refine T.exit ?_); simp [*])
      | ((with_reducible refine T.br fun K1 K2 hK1 hK2 => ?_); simp [*]; try ((refine Br.intro (fun hc => ?_) (fun hc => ?_)) <;> (try simp at hc)))
      | (with_reducible refine Cont.go (by assumption) _ ?_)
      | (with_reducible refine Cnt.go (by assumption) ?_))
    refine T.len (t := 8) (els := encI .u8 l) (tk := .no) (by simp [*]) fun hlen => ?_
    rw [encI_length] at hlen
    refine T.loop (fun m σ => ∃ (j n : Nat), m = l.length - j ∧ σ.get 8 = .sl (encI .u8 l) .no ∧ σ.get 9 = .int .i64 l.length ∧ σ.get 10 = .int .i64 j ∧ σ.get 5 = .int .u64 n ∧ j ≤ l.length ∧ j ≤ 9 ∧ Hold (n < 128 ^ j ∧ getS l 0 0 = getS (l.drop j) j n)) l.length ⟨0, 0, by simp [*, Hold]⟩ ?_
    rintro m σ ⟨j, n, rfl, g1, g2, g3, g4, g5, g6, g7⟩
    by_cases hj : j < l.length
    · have hw := wrap_succ hlen hj
      have hd := get_drop l j j n hj
      obtain ⟨hc0, hc1⟩ := hm l[j] (List.getElem_mem hj)
      obtain ⟨c, hc⟩ := Int.eq_ofNat_of_zero_le hc0
      rw [hc] at hd hc1
      have hc2 : c < 256 := by omega
      obtain ⟨hn, hg⟩ := g7
      by_cases q1 : j = 9 ∧ 1 < c
      · obtain ⟨q0, q2⟩ := q1
        rw [if_pos ⟨q0, by omega⟩] at hd
        have hv : Hold (getV l = .tup [.int .u64 0, .int .i64 0, .int .i64 11]) := get_ext (hg.trans hd)
        have q3 : (1 : Int) < c := by omega
        obtain ⟨B9, h9⟩ : ∃ B : Prop, (j = 9 ↔ B) := ⟨_, Iff.rfl⟩
        have h9i : (j : Int) = 9 ↔ B9 := by rw [← h9]; omega
        have e9 : B9 := h9.1 q0
        clear hd hg hn hw q0
        repeat' (first
          | (with_reducible refine T.sq fun K hK => ?_)
          | ((first | ((with_reducible refine T.reg hE ?hd ?_); (case hd => kernel_rfl)) | ((with_reducible refine T.any hE mixed ?hd ?hok ?_); (case hd => kernel_rfl); (case hok => kernel_rfl))); simp [*]; (repeat' (split; all_goals (rename_i hc; try simp [*]))))
          | ((with_reducible refine T.ret ?_); refine fin_pure ?_; simp [*]; try (change Hold _))
          | (with_reducible refine T.block ?_)
          | ((with_reducible refine T.skip ?_); simp [*])
          | ((with_reducible refine T.exit ?_); simp [*])
          | ((with_reducible refine T.br fun K1 K2 hK1 hK2 => ?_); simp [*]; try ((refine Br.intro (fun hc => ?_) (fun hc => ?_)) <;> (try simp at hc)))
          | (with_reducible refine Cont.go (by assumption) _ ?_)
          | (with_reducible refine Cnt.go (by assumption) ?_))
        all_goals (unfold Hold at *; rw [hv])
      · rw [if_neg (fun h => q1 ⟨h.1, by omega⟩)] at hd
        have hc9 : j = 9 → c ≤ 1 := fun h => by omega
        have l1 := sev_lt64 g6 hc9
        have l2 := sev_add_lt64 hn g6 hc9
        have l3 := sev_add_lt (c := c) hn
        have l4 := sev_or (c := c) hn
        have ha := and127 hc2
        obtain ⟨k, hk⟩ : ∃ k, k = 7 * j := ⟨_, rfl⟩
        have w1 : IntKind.i64.wrap (7 * (j : Int)) = (k : Int) := by rw [wrap64 (by omega) (by omega)]; omega
        have w2 : IntKind.u64.wrap (k : Int) = k := wrap64u (by omega)
        have w3 : IntKind.u64.wrap ((lowN c : Nat) : Int) = (lowN c : Nat) := wrap64u (by unfold lowN; omega)
        have w4 : IntKind.u64.wrap (((lowN c : Nat) : Int) * 2 ^ min k IntKind.u64.bits) = ((sevN c j : Nat) : Int) := by
          have e : min k IntKind.u64.bits = k := Nat.min_eq_left (by simp [IntKind.bits]; omega)
          have e2 : ((lowN c : Nat) : Int) * 2 ^ k = ((sevN c j : Nat) : Int) := by
            unfold lowN sevN
            rw [pow128, hk]; simp
          rw [e, e2]; exact wrap64u l1
        have w5 : bits .or .u64 (n : Int) ((sevN c j : Nat) : Int) = ((n + sevN c j : Nat) : Int) := by
          have h1 : n < 18446744073709551616 := by omega
          rw [bits_or rfl (by simpa [IntKind.bits] using h1) (by simpa [IntKind.bits] using l1), l4]
        have hq9 : j = 9 → ¬ (1 : Int) < c := fun h => by have := hc9 h; omega
        clear hk
        obtain ⟨B9, h9⟩ : ∃ B : Prop, (j = 9 ↔ B) := ⟨_, Iff.rfl⟩
        have h9i : (j : Int) = 9 ↔ B9 := by rw [← h9]; omega
        obtain ⟨B0, h0⟩ : ∃ B : Prop, (c = 0 ↔ B) := ⟨_, Iff.rfl⟩
        have h0i : (c : Int) = 0 ↔ B0 := by rw [← h0]; omega
        have hq9' : B9 → ¬ (1 : Int) < c := fun h => hq9 (h9.2 h)
        clear hc9 l1 l2 l4 hq9 q1
        by_cases q2 : c < 128
        · have hq : ((c : Nat) : Int).fdiv (2 ^ min 7 IntKind.u8.bits) = 0 := by rw [show min 7 IntKind.u8.bits = 7 from rfl, Int.fdiv_eq_ediv_of_nonneg _ (by decide)]; omega
          rw [if_pos (by omega)] at hd
          clear l3
          rcases Classical.em B0 with e0 | e0
          · by_cases q5 : 0 < j
            · rw [if_pos ⟨h0i.2 e0, q5⟩] at hd
              have hv : Hold (getV l = .tup [.int .u64 0, .int .i64 0, .int .i64 11]) := get_ext (hg.trans hd)
              clear hd hg hn
              rcases Classical.em B9 with e9 | e9
              · repeat' (first
                  | (with_reducible refine T.sq fun K hK => ?_)
                  | ((first | ((with_reducible refine T.reg hE ?hd ?_); (case hd => kernel_rfl)) | ((with_reducible refine T.any hE mixed ?hd ?hok ?_); (case hd => kernel_rfl); (case hok => kernel_rfl))); simp [*]; (repeat' (split; all_goals (rename_i hc; try simp [*]))))
                  | ((with_reducible refine T.ret ?_); refine fin_pure ?_; simp [*]; try (change Hold _))
                  | (with_reducible refine T.block ?_)
                  | ((with_reducible refine T.skip ?_); simp [*])
                  | ((with_reducible refine T.exit ?_); simp [*])
                  | ((with_reducible refine T.br fun K1 K2 hK1 hK2 => ?_); simp [*]; try ((refine Br.intro (fun hc => ?_) (fun hc => ?_)) <;> (try simp at hc)))
                  | (with_reducible refine Cont.go (by assumption) _ ?_)
                  | (with_reducible refine Cnt.go (by assumption) ?_))
                all_goals (unfold Hold at *; rw [hv])
              · repeat' (first
                  | (with_reducible refine T.sq fun K hK => ?_)
                  | ((first | ((with_reducible refine T.reg hE ?hd ?_); (case hd => kernel_rfl)) | ((with_reducible refine T.any hE mixed ?hd ?hok ?_); (case hd => kernel_rfl); (case hok => kernel_rfl))); simp [*]; (repeat' (split; all_goals (rename_i hc; try simp [*]))))
                  | ((with_reducible refine T.ret ?_); refine fin_pure ?_; simp [*]; try (change Hold _))
                  | (with_reducible refine T.block ?_)
                  | ((with_reducible refine T.skip ?_); simp [*])
                  | ((with_reducible refine T.exit ?_); simp [*])
                  | ((with_reducible refine T.br fun K1 K2 hK1 hK2 => ?_); simp [*]; try ((refine Br.intro (fun hc => ?_) (fun hc => ?_)) <;> (try simp at hc)))
                  | (with_reducible refine Cont.go (by assumption) _ ?_)
                  | (with_reducible refine Cnt.go (by assumption) ?_))
                all_goals (unfold Hold at *; rw [hv])
            · rw [if_neg (fun h => q5 h.2)] at hd
              have hv : Hold (getV l = .tup [.int .u64 ((n + sevN c j : Nat) : Int), .int .i64 ((j + 1 : Nat) : Int), .int .i64 0]) := by
                refine get_ext ((hg.trans hd).trans ?_)
                rw [show (c : Int).toNat = c from rfl]
                unfold sevN
                rw [Nat.mod_eq_of_lt q2]
              clear hd hg hn
              rcases Classical.em B9 with e9 | e9
              · repeat' (first
                  | (with_reducible refine T.sq fun K hK => ?_)
                  | ((first | ((with_reducible refine T.reg hE ?hd ?_); (case hd => kernel_rfl)) | ((with_reducible refine T.any hE mixed ?hd ?hok ?_); (case hd => kernel_rfl); (case hok => kernel_rfl))); simp [*]; (repeat' (split; all_goals (rename_i hc; try simp [*]))))
                  | ((with_reducible refine T.ret ?_); refine fin_pure ?_; simp [*]; try (change Hold _))
                  | (with_reducible refine T.block ?_)
                  | ((with_reducible refine T.skip ?_); simp [*])
                  | ((with_reducible refine T.exit ?_); simp [*])
                  | ((with_reducible refine T.br fun K1 K2 hK1 hK2 => ?_); simp [*]; try ((refine Br.intro (fun hc => ?_) (fun hc => ?_)) <;> (try simp at hc)))
                  | (with_reducible refine Cont.go (by assumption) _ ?_)
                  | (with_reducible refine Cnt.go (by assumption) ?_))
                all_goals (unfold Hold at *; rw [hv]; simp)
              · repeat' (first
                  | (with_reducible refine T.sq fun K hK => ?_)
                  | ((first | ((with_reducible refine T.reg hE ?hd ?_); (case hd => kernel_rfl)) | ((with_reducible refine T.any hE mixed ?hd ?hok ?_); (case hd => kernel_rfl); (case hok => kernel_rfl))); simp [*]; (repeat' (split; all_goals (rename_i hc; try simp [*]))))
                  | ((with_reducible refine T.ret ?_); refine fin_pure ?_; simp [*]; try (change Hold _))
                  | (with_reducible refine T.block ?_)
                  | ((with_reducible refine T.skip ?_); simp [*])
                  | ((with_reducible refine T.exit ?_); simp [*])
                  | ((with_reducible refine T.br fun K1 K2 hK1 hK2 => ?_); simp [*]; try ((refine Br.intro (fun hc => ?_) (fun hc => ?_)) <;> (try simp at hc)))
                  | (with_reducible refine Cont.go (by assumption) _ ?_)
                  | (with_reducible refine Cnt.go (by assumption) ?_))
                all_goals (unfold Hold at *; rw [hv]; simp)
          · rw [if_neg (fun h => e0 (h0i.1 h.1))] at hd
            have hv : Hold (getV l = .tup [.int .u64 ((n + sevN c j : Nat) : Int), .int .i64 ((j + 1 : Nat) : Int), .int .i64 0]) := by
              refine get_ext ((hg.trans hd).trans ?_)
              rw [show (c : Int).toNat = c from rfl]
              unfold sevN
              rw [Nat.mod_eq_of_lt q2]
            clear hd hg hn
            rcases Classical.em B9 with e9 | e9
            · repeat' (first
                | (with_reducible refine T.sq fun K hK => ?_)
                | ((first | ((with_reducible refine T.reg hE ?hd ?_); (case hd => kernel_rfl)) | ((with_reducible refine T.any hE mixed ?hd ?hok ?_); (case hd => kernel_rfl); (case hok => kernel_rfl))); simp [*]; (repeat' (split; all_goals (rename_i hc; try simp [*]))))
                | ((with_reducible refine T.ret ?_); refine fin_pure ?_; simp [*]; try (change Hold _))
                | (with_reducible refine T.block ?_)
                | ((with_reducible refine T.skip ?_); simp [*])
                | ((with_reducible refine T.exit ?_); simp [*])
                | ((with_reducible refine T.br fun K1 K2 hK1 hK2 => ?_); simp [*]; try ((refine Br.intro (fun hc => ?_) (fun hc => ?_)) <;> (try simp at hc)))
                | (with_reducible refine Cont.go (by assumption) _ ?_)
                | (with_reducible refine Cnt.go (by assumption) ?_))
              all_goals (unfold Hold at *; rw [hv]; simp)
            · repeat' (first
                | (with_reducible refine T.sq fun K hK => ?_)
                | ((first | ((with_reducible refine T.reg hE ?hd ?_); (case hd => kernel_rfl)) | ((with_reducible refine T.any hE mixed ?hd ?hok ?_); (case hd => kernel_rfl); (case hok => kernel_rfl))); simp [*]; (repeat' (split; all_goals (rename_i hc; try simp [*]))))
                | ((with_reducible refine T.ret ?_); refine fin_pure ?_; simp [*]; try (change Hold _))
                | (with_reducible refine T.block ?_)
                | ((with_reducible refine T.skip ?_); simp [*])
                | ((with_reducible refine T.exit ?_); simp [*])
                | ((with_reducible refine T.br fun K1 K2 hK1 hK2 => ?_); simp [*]; try ((refine Br.intro (fun hc => ?_) (fun hc => ?_)) <;> (try simp at hc)))
                | (with_reducible refine Cont.go (by assumption) _ ?_)
                | (with_reducible refine Cnt.go (by assumption) ?_))
              all_goals (unfold Hold at *; rw [hv]; simp)
        · have hq : ((c : Nat) : Int).fdiv (2 ^ min 7 IntKind.u8.bits) = 1 := by rw [show min 7 IntKind.u8.bits = 7 from rfl, Int.fdiv_eq_ediv_of_nonneg _ (by decide)]; omega
          rw [if_neg (by omega)] at hd
          have e9 : ¬ B9 := fun h => by have := hq9' h; omega
          have hj9 : j + 1 ≤ 9 := by have : ¬ j = 9 := fun h => e9 (h9.1 h); omega
          have hn2 : Hold (n + sevN c j < 128 ^ (j + 1) ∧ getS l 0 0 = getS (l.drop (j + 1)) (j + 1) (n + sevN c j)) := ⟨l3, hg.trans hd⟩
          clear hd hg hn l3 hq9'
          repeat' (first
            | (with_reducible refine T.sq fun K hK => ?_)
            | ((first | ((with_reducible refine T.reg hE ?hd ?_); (case hd => kernel_rfl)) | ((with_reducible refine T.any hE mixed ?hd ?hok ?_); (case hd => kernel_rfl); (case hok => kernel_rfl))); simp [*]; (repeat' (split; all_goals (rename_i hc; try simp [*]))))
            | ((with_reducible refine T.ret ?_); refine fin_pure ?_; simp [*]; try (change Hold _))
            | (with_reducible refine T.block ?_)
            | ((with_reducible refine T.skip ?_); simp [*])
            | ((with_reducible refine T.exit ?_); simp [*])
            | ((with_reducible refine T.br fun K1 K2 hK1 hK2 => ?_); simp [*]; try ((refine Br.intro (fun hc => ?_) (fun hc => ?_)) <;> (try simp at hc)))
            | (with_reducible refine Cont.go (by assumption) _ ?_)
            | (with_reducible refine Cnt.go (by assumption) ?_))
          exact ⟨l.length - (j + 1), by omega, j + 1, rfl, by omega, n + sevN c j, by simp, by omega, hj9, hn2⟩
    · have w8 : j = l.length := by omega
      have hv : Hold (getV l = .tup [.int .u64 0, .int .i64 0, .int .i64 10]) := by
        unfold Hold at *
        refine get_ext (g7.2.trans ?_)
        rw [w8, List.drop_length, getS]
      clear g7
      repeat' (first
        | (with_reducible refine T.sq fun K hK => ?_)
        | ((first | ((with_reducible refine T.reg hE ?hd ?_); (case hd => kernel_rfl)) | ((with_reducible refine T.any hE mixed ?hd ?hok ?_); (case hd => kernel_rfl); (case hok => kernel_rfl))); simp [*]; (repeat' (split; all_goals (rename_i hc; try simp [*]))))
        | ((with_reducible refine T.ret ?_); refine fin_pure ?_; simp [*]; try (change Hold _))
        | (with_reducible refine T.block ?_)
        | ((with_reducible refine T.skip ?_); simp [*])
        | ((with_reducible refine T.exit ?_); simp [*])
        | ((with_reducible refine T.br fun K1 K2 hK1 hK2 => ?_); simp [*]; try ((refine Br.intro (fun hc => ?_) (fun hc => ?_)) <;> (try simp at hc)))
        | (with_reducible refine Cont.go (by assumption) _ ?_)
        | (with_reducible refine Cnt.go (by assumption) ?_))
      all_goals (unfold Hold at *; rw [hv])
  · cases hr
def isU32 (n : Int) : Prop := 0 ≤ n ∧ n < 4294967296
noncomputable instance (n : Int) : Decidable (isU32 n) := Classical.propDecidable _
def unpV (h : Nat) : V := .tup [.int .i64 ((h / 16777216 : Nat) : Int), .int .i64 ((h / 256 % 65536 : Nat) : Int), .int .i64 ((h % 256 : Nat) : Int)]
@[simp] noncomputable def gUnpack : List V → Option V := f1 (kI .u32) fun h => if isU32 h then some (unpV h.toNat) else none
theorem ok_wUnpack : PureOk Try.prog 109 gUnpack := by
  intro args r h
  obtain ⟨l, rfl, hr⟩ := f1_inv h; clear h
  split at hr
  · rename_i hm
    cases hr
    obtain ⟨m1, m2⟩ := hm
    obtain ⟨n, rfl⟩ := Int.eq_ofNat_of_zero_le m1
    have hn : n < 4294967296 := by omega
    have hE := (EnvOk.nil (P := Try.prog) (eq := fun _ => false) (own := fun _ => false) (mem := fun _ => false) EqOk.none)
    refine ⟨⟨Try.f109, Try.func109, by decide, rfl⟩, pure_of_T Try.func109 rfl (by simp [Try.ntmps109]) fun q => ?_⟩
    have s1 : ((n : Nat) : Int).fdiv (2 ^ min 24 IntKind.u32.bits) = ((n / 16777216 : Nat) : Int) := by rw [show min 24 IntKind.u32.bits = 24 from rfl, Int.fdiv_eq_ediv_of_nonneg _ (by decide)]; rfl
    have s2 : ((n : Nat) : Int).fdiv (2 ^ min 8 IntKind.u32.bits) = ((n / 256 : Nat) : Int) := by rw [show min 8 IntKind.u32.bits = 8 from rfl, Int.fdiv_eq_ediv_of_nonneg _ (by decide)]; rfl
    obtain ⟨a, ha⟩ : ∃ a, a = n / 16777216 := ⟨_, rfl⟩
    obtain ⟨b, hb⟩ : ∃ b, b = n / 256 := ⟨_, rfl⟩
    obtain ⟨b2, hb2⟩ : ∃ b2, b2 = n / 256 % 65536 := ⟨_, rfl⟩
    obtain ⟨d, hd⟩ : ∃ d, d = n % 256 := ⟨_, rfl⟩
    rw [← ha] at s1
    rw [← hb] at s2
    have w1 : IntKind.i64.wrap (a : Int) = a := wrap64 (by omega) (by omega)
    have w2 : IntKind.u16.wrap (b : Int) = b2 := by rw [wrapU_mod rfl, hb2, hb]; rfl
    have w3 : IntKind.i64.wrap (b2 : Int) = b2 := wrap64 (by omega) (by omega)
    have w4 : IntKind.u8.wrap (n : Int) = d := by rw [u8_nat, hd]
    have w5 : IntKind.i64.wrap (d : Int) = d := wrap64 (by omega) (by omega)
    have hv : Hold (unpV n = .tup [.int .i64 a, .int .i64 b2, .int .i64 d]) := by unfold Hold unpV; rw [← ha, ← hb2, ← hd]
    clear ha hb hb2 hd
    repeat' (first
      | (with_reducible refine T.sq fun K hK => ?_)
      | ((first | ((with_reducible refine T.reg hE ?hd ?_); (case hd => kernel_rfl)) | ((with_reducible refine T.any hE mixed ?hd ?hok ?_); (case hd => kernel_rfl); (case hok => kernel_rfl))); simp [*]; (repeat' (split; all_goals (rename_i hc; try simp [*]))))
      | ((with_reducible refine T.ret ?_); refine fin_pure ?_; simp [*]; try (change Hold _))
      | (with_reducible refine T.block ?_)
      | ((with_reducible refine T.skip ?_); simp [*])
      | ((with_reducible refine T.exit ?_); simp [*])
      | ((with_reducible refine T.br fun K1 K2 hK1 hK2 => ?_); simp [*]; try ((refine Br.intro (fun hc => ?_) (fun hc => ?_)) <;> (try simp at hc)))
      | (with_reducible refine Cont.go (by assumption) _ ?_)
      | (with_reducible refine Cnt.go (by assumption) ?_))
    all_goals (unfold Hold at *; rw [hv])
  · cases hr
end Go.Proofs.Ytdpphpdjimmpbaa.Ax
