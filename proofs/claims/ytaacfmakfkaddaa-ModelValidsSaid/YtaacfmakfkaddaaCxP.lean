/- Contracts: values of terms in a world, by the reference; what tables tell. -/
import Derived.Test.YtaacfmakfkaddaaBxW
import Derived.Test.YtaacfmakfkaddaaCxC
set_option linter.unusedVariables false
set_option linter.unusedSimpArgs false
namespace Go.Proofs.Ytaacfmakfkaddaa.Ax
open Go Go.Proofs

def atN (size : Int) (zs : List Int) : Int := zs.foldl (fun n a => n * size + a) 0
theorem at_snoc (size : Int) (zs : List Int) (j : Nat) (h : j < zs.length) : atN size (zs.take j) * size + zs[j] = atN size (zs.take (j + 1)) := by
  rw [List.take_add_one]
  simp only [atN, h, List.getElem?_eq_getElem, Option.toList_some, List.foldl_append, List.foldl_cons, List.foldl_nil]
theorem at_range {size : Int} (h1 : 1 ≤ size) (h2 : size ≤ 3) : ∀ zs : List Int, (∀ a ∈ zs, 0 ≤ a ∧ a < size) → zs.length ≤ 4 → 0 ≤ atN size zs ∧ atN size zs < size ^ zs.length := by
  have key : ∀ (zs : List Int) (n : Int) (k : Nat), (∀ a ∈ zs, 0 ≤ a ∧ a < size) → 0 ≤ n → n < size ^ k → 0 ≤ zs.foldl (fun n a => n * size + a) n ∧ zs.foldl (fun n a => n * size + a) n < size ^ (k + zs.length) := by
    intro zs
    induction zs with
    | nil => intro n k _ h0 h1; exact ⟨h0, h1⟩
    | cons a zs ih =>
      intro n k ha h0 h3
      have hx := ha a (by simp)
      have hmul := Int.mul_nonneg h0 (show 0 ≤ size by omega)
      have h4 : n * size + a < size ^ (k + 1) := by
        have h5 : (n + 1) * size ≤ size ^ k * size := Int.mul_le_mul_of_nonneg_right (by omega) (by omega)
        rw [Int.pow_succ]
        rw [Int.add_mul] at h5
        omega
      have := ih (n * size + a) (k + 1) (fun x hx => ha x (by simp [hx])) (by omega) h4
      rw [List.foldl_cons, List.length_cons, show k + (zs.length + 1) = k + 1 + zs.length by omega]
      exact this
  intro zs ha hl
  have := key zs 0 0 ha (by omega) (by simp)
  simpa [atN] using this
theorem at_81 {size : Int} (h1 : 1 ≤ size) (h2 : size ≤ 3) (n : Nat) (hn : n ≤ 4) : size ^ n ≤ 81 := by
  obtain rfl | rfl | rfl : size = 1 ∨ size = 2 ∨ size = 3 := by omega
  all_goals (obtain rfl | rfl | rfl | rfl | rfl : n = 0 ∨ n = 1 ∨ n = 2 ∨ n = 3 ∨ n = 4 := by omega) <;> decide
/-- The first table of a symbol. -/
def fdT : List Tb → Int → Nat → Option Tb
  | [], _, _ => none
  | t :: l, id, n => if t.id = id ∧ t.args = n then some t else fdT l id n
theorem fdT_drop (l : List Tb) (j : Nat) (h : j < l.length) (id : Int) (n : Nat) : fdT (l.drop j) id n = if l[j].id = id ∧ l[j].args = n then some l[j] else fdT (l.drop (j + 1)) id n := by
  rw [List.drop_eq_getElem_cons h, fdT]
def lookV (l : List Tb) (size id : Int) (zs : List Int) : Int := match fdT l id zs.length with
  | some t => t.vals.getD (atN size zs).toNat 0
  | none => 0
theorem tb_at {l : List Tb} {size most : Int} (h : tbsOk l size most = true) (j : Nat) (hj : j < l.length) : tbOk l[j] size most = true ∧ (l[j].vals.length : Int) = size ^ l[j].args.toNat := by
  unfold tbsOk allOk at h
  simp only [Bool.and_eq_true, List.all_eq_true] at h
  have h1 := h.2 j (by simp [hj])
  unfold goodAt at h1
  rw [List.getElem?_eq_getElem hj] at h1
  simp only [Bool.and_eq_true] at h1
  refine ⟨h1.1, ?_⟩
  have h2 := h1.1
  unfold tbOk at h2
  simp only [Bool.and_eq_true, decide_eq_true_eq] at h2
  exact h2.1.2
def okLook (l : List Tb) (size : Int) (zs : List Int) : Prop := (1 ≤ size ∧ size ≤ 3) ∧ (∃ most, tbsOk l size most = true) ∧ zs.length ≤ 4 ∧ ∀ a ∈ zs, 0 ≤ a ∧ a < size
noncomputable instance (l : List Tb) (size : Int) (zs : List Int) : Decidable (okLook l size zs) := Classical.propDecidable _
@[simp] noncomputable def gLook : List V → Option V := f4 (kRs rTb) (kI .i64) (kI .i64) (kIs .i64) fun l size id zs => if okLook l size zs then some (.int .i64 (lookV l size id zs)) else none
set_option maxHeartbeats 1000000 in
theorem ok_mValue : PureOk Try.prog 26 gLook := by
  intro args r h
  obtain ⟨l, size, id, zs, rfl, hr⟩ := f4_inv h; clear h
  split at hr
  · rename_i hm
    cases hr
    obtain ⟨⟨s1, s2⟩, ⟨most, htb⟩, hlen4, has⟩ := hm
    have hE := (EnvOk.nil (P := Try.prog) (eq := fun _ => false) (own := fun _ => false) (mem := fun _ => false) EqOk.none)
    refine ⟨⟨Try.f26, Try.func26, by decide, rfl⟩, pure_of_T Try.func26 rfl (by simp [Try.ntmps26]) fun q => ?_⟩
    repeat' (first | (with_reducible refine T.sq fun K hK => ?_) | ((first | ((with_reducible refine T.reg hE ?hd ?_); (case hd => kernel_rfl)) | ((with_reducible refine T.any hE mixed ?hd ?hok ?_); (case hd => kernel_rfl); (case hok => kernel_rfl))); simp [*]; (repeat' (split; all_goals (rename_i hc; try simp [*])))) | ((with_reducible refine T.ret ?_); refine fin_pure ?_; simp [*]; try (change Hold _)) | (with_reducible refine T.block ?_) | ((with_reducible refine T.skip ?_); simp [*]) | ((with_reducible refine T.exit ?_); simp [*]) | ((with_reducible refine T.br fun K1 K2 hK1 hK2 => ?_); simp [*]; try ((refine Br.intro (fun hc => ?_) (fun hc => ?_)) <;> (try simp at hc))) | (with_reducible refine Cont.go (by assumption) _ ?_) | (with_reducible refine Cnt.go (by assumption) ?_))
    refine T.loop (fun n σ => ∃ j : Nat, n = zs.length - j ∧ σ.get 0 = .sl (rTb.encL l) .no ∧ σ.get 1 = .int .i64 size ∧ σ.get 2 = .int .i64 id ∧ σ.get 3 = .sl (encI .i64 zs) .no ∧ σ.get 9 = .int .i64 (atN size (zs.take j)) ∧ σ.get 14 = .sl (encI .i64 zs) .no ∧ σ.get 15 = .int .i64 zs.length ∧ σ.get 16 = .int .i64 j ∧ j ≤ zs.length) zs.length ⟨0, by simp [*, atN]⟩ ?_
    rintro n σ ⟨j, rfl, g0, g1, g2, g3, g4, g5, g6, g7, g8⟩
    by_cases hj : j < zs.length
    · have hw : IntKind.i64.wrap ((j : Int) + 1) = (j : Int) + 1 := wrap64 (by omega) (by omega)
      have h81 := at_81 s1 s2 (zs.take j).length (by rw [List.length_take]; omega)
      have h82 := at_81 s1 s2 (zs.take (j + 1)).length (by rw [List.length_take]; omega)
      have hb := at_range s1 s2 (zs.take j) (fun a ha => has a (List.mem_of_mem_take ha)) (by rw [List.length_take]; omega)
      have hb2 := at_range s1 s2 (zs.take (j + 1)) (fun a ha => has a (List.mem_of_mem_take ha)) (by rw [List.length_take]; omega)
      have hs := at_snoc size zs j hj
      have hmul : 0 ≤ atN size (zs.take j) * size ∧ atN size (zs.take j) * size ≤ 243 := by
        refine ⟨Int.mul_nonneg hb.1 (by omega), ?_⟩
        have h1 := Int.mul_le_mul (show atN size (zs.take j) ≤ 81 by omega) s2 (by omega) (by omega)
        omega
      have w1 : IntKind.i64.wrap (atN size (zs.take j) * size) = atN size (zs.take j) * size := wrap64 (by omega) (by omega)
      have w2 : IntKind.i64.wrap (atN size (zs.take j) * size + zs[j]) = atN size (zs.take (j + 1)) := by rw [← hs]; exact wrap64 (by omega) (by omega)
      clear hb hb2 hs hmul h81 h82
      repeat' (first | (with_reducible refine T.sq fun K hK => ?_) | ((first | ((with_reducible refine T.reg hE ?hd ?_); (case hd => kernel_rfl)) | ((with_reducible refine T.any hE mixed ?hd ?hok ?_); (case hd => kernel_rfl); (case hok => kernel_rfl))); simp [*]; (repeat' (split; all_goals (rename_i hc; try simp [*])))) | ((with_reducible refine T.ret ?_); refine fin_pure ?_; simp [*]; try (change Hold _)) | (with_reducible refine T.block ?_) | ((with_reducible refine T.skip ?_); simp [*]) | ((with_reducible refine T.exit ?_); simp [*]) | ((with_reducible refine T.br fun K1 K2 hK1 hK2 => ?_); simp [*]; try ((refine Br.intro (fun hc => ?_) (fun hc => ?_)) <;> (try simp at hc))) | (with_reducible refine Cont.go (by assumption) _ ?_) | (with_reducible refine Cnt.go (by assumption) ?_))
      exact ⟨_, by omega, j + 1, rfl, by omega, by omega⟩
    · have w8 : j = zs.length := by omega
      subst w8
      rw [List.take_length] at g4
      have hat := at_range s1 s2 zs has hlen4
      obtain ⟨z, hz⟩ := Int.eq_ofNat_of_zero_le hat.1
      have hll : l.length ≤ 8 := by
        unfold tbsOk at htb
        simp only [Bool.and_eq_true, decide_eq_true_eq] at htb
        exact htb.1
      rw [hz] at g4
      have hv0 : Hold (lookV l size id zs = match fdT l id zs.length with | some t => t.vals.getD z 0 | none => 0) := by unfold Hold lookV; rw [hz]; rfl
      repeat' (first | (with_reducible refine T.sq fun K hK => ?_) | ((first | ((with_reducible refine T.reg hE ?hd ?_); (case hd => kernel_rfl)) | ((with_reducible refine T.any hE mixed ?hd ?hok ?_); (case hd => kernel_rfl); (case hok => kernel_rfl))); simp [*]; (repeat' (split; all_goals (rename_i hc; try simp [*])))) | ((with_reducible refine T.ret ?_); refine fin_pure ?_; simp [*]; try (change Hold _)) | (with_reducible refine T.block ?_) | ((with_reducible refine T.skip ?_); simp [*]) | ((with_reducible refine T.exit ?_); simp [*]) | ((with_reducible refine T.br fun K1 K2 hK1 hK2 => ?_); simp [*]; try ((refine Br.intro (fun hc => ?_) (fun hc => ?_)) <;> (try simp at hc))) | (with_reducible refine Cont.go (by assumption) _ ?_) | (with_reducible refine Cnt.go (by assumption) ?_))
      refine T.loop (fun n σ => ∃ j : Nat, n = l.length - j ∧ σ.get 2 = .int .i64 id ∧ σ.get 3 = .sl (encI .i64 zs) .no ∧ σ.get 9 = .int .i64 z ∧ σ.get 26 = .sl (rTb.encL l) .no ∧ σ.get 27 = .int .i64 l.length ∧ σ.get 28 = .int .i64 j ∧ j ≤ l.length ∧ Hold (fdT l id zs.length = fdT (l.drop j) id zs.length)) l.length ⟨0, by simp [*, Hold]⟩ ?_
      clear g0 g1 g2 g3 g4 g5 g6 g7 g8 hj
      rintro n σ ⟨j, rfl, g1, g2, g3, g4, g5, g6, g7, g8⟩
      by_cases hj : j < l.length
      · have hw : IntKind.i64.wrap ((j : Int) + 1) = (j : Int) + 1 := wrap64 (by omega) (by omega)
        have hfd := fdT_drop l j hj id zs.length
        have htj := tb_at htb j hj
        by_cases w1 : l[j].id = id
        · by_cases w2 : l[j].args = zs.length
          · rw [if_pos ⟨w1, w2⟩] at hfd
            have hzl : z < l[j].vals.length := by
              have h1 := htj.2
              rw [w2, Int.toNat_natCast] at h1
              have h3 := hat.2
              omega
            have hzi : (z : Int) < (l[j].vals.length : Int) := by omega
            have hv : Hold (lookV l size id zs = l[j].vals[z]) := by
              unfold Hold at *
              rw [hv0, g8, hfd]
              simp [List.getD_eq_getElem?_getD, hzl]
            clear hv0 g8 hfd htj
            repeat' (first | (with_reducible refine T.sq fun K hK => ?_) | ((first | ((with_reducible refine T.reg hE ?hd ?_); (case hd => kernel_rfl)) | ((with_reducible refine T.any hE mixed ?hd ?hok ?_); (case hd => kernel_rfl); (case hok => kernel_rfl))); simp [*]; (repeat' (split; all_goals (rename_i hc; try simp [*])))) | ((with_reducible refine T.ret ?_); refine fin_pure ?_; simp [*]; try (change Hold _)) | (with_reducible refine T.block ?_) | ((with_reducible refine T.skip ?_); simp [*]) | ((with_reducible refine T.exit ?_); simp [*]) | ((with_reducible refine T.br fun K1 K2 hK1 hK2 => ?_); simp [*]; try ((refine Br.intro (fun hc => ?_) (fun hc => ?_)) <;> (try simp at hc))) | (with_reducible refine Cont.go (by assumption) _ ?_) | (with_reducible refine Cnt.go (by assumption) ?_))
            all_goals (unfold Hold at *; rw [hv])
          · rw [if_neg (fun h => w2 h.2)] at hfd
            have c4 : Hold (fdT l id zs.length = fdT (l.drop (j + 1)) id zs.length) := by unfold Hold at *; rw [g8, hfd]
            clear hfd g8 htj
            repeat' (first | (with_reducible refine T.sq fun K hK => ?_) | ((first | ((with_reducible refine T.reg hE ?hd ?_); (case hd => kernel_rfl)) | ((with_reducible refine T.any hE mixed ?hd ?hok ?_); (case hd => kernel_rfl); (case hok => kernel_rfl))); simp [*]; (repeat' (split; all_goals (rename_i hc; try simp [*])))) | ((with_reducible refine T.ret ?_); refine fin_pure ?_; simp [*]; try (change Hold _)) | (with_reducible refine T.block ?_) | ((with_reducible refine T.skip ?_); simp [*]) | ((with_reducible refine T.exit ?_); simp [*]) | ((with_reducible refine T.br fun K1 K2 hK1 hK2 => ?_); simp [*]; try ((refine Br.intro (fun hc => ?_) (fun hc => ?_)) <;> (try simp at hc))) | (with_reducible refine Cont.go (by assumption) _ ?_) | (with_reducible refine Cnt.go (by assumption) ?_))
            exact ⟨_, by omega, j + 1, rfl, by omega, by omega, c4⟩
        · rw [if_neg (fun h => w1 h.1)] at hfd
          have c4 : Hold (fdT l id zs.length = fdT (l.drop (j + 1)) id zs.length) := by unfold Hold at *; rw [g8, hfd]
          clear hfd g8 htj
          repeat' (first | (with_reducible refine T.sq fun K hK => ?_) | ((first | ((with_reducible refine T.reg hE ?hd ?_); (case hd => kernel_rfl)) | ((with_reducible refine T.any hE mixed ?hd ?hok ?_); (case hd => kernel_rfl); (case hok => kernel_rfl))); simp [*]; (repeat' (split; all_goals (rename_i hc; try simp [*])))) | ((with_reducible refine T.ret ?_); refine fin_pure ?_; simp [*]; try (change Hold _)) | (with_reducible refine T.block ?_) | ((with_reducible refine T.skip ?_); simp [*]) | ((with_reducible refine T.exit ?_); simp [*]) | ((with_reducible refine T.br fun K1 K2 hK1 hK2 => ?_); simp [*]; try ((refine Br.intro (fun hc => ?_) (fun hc => ?_)) <;> (try simp at hc))) | (with_reducible refine Cont.go (by assumption) _ ?_) | (with_reducible refine Cnt.go (by assumption) ?_))
          exact ⟨_, by omega, j + 1, rfl, by omega, by omega, c4⟩
      · have w8 : j = l.length := by omega
        have hv : Hold (lookV l size id zs = 0) := by unfold Hold at *; rw [hv0, g8, w8, List.drop_length]; rfl
        clear hv0 g8
        repeat' (first | (with_reducible refine T.sq fun K hK => ?_) | ((first | ((with_reducible refine T.reg hE ?hd ?_); (case hd => kernel_rfl)) | ((with_reducible refine T.any hE mixed ?hd ?hok ?_); (case hd => kernel_rfl); (case hok => kernel_rfl))); simp [*]; (repeat' (split; all_goals (rename_i hc; try simp [*])))) | ((with_reducible refine T.ret ?_); refine fin_pure ?_; simp [*]; try (change Hold _)) | (with_reducible refine T.block ?_) | ((with_reducible refine T.skip ?_); simp [*]) | ((with_reducible refine T.exit ?_); simp [*]) | ((with_reducible refine T.br fun K1 K2 hK1 hK2 => ?_); simp [*]; try ((refine Br.intro (fun hc => ?_) (fun hc => ?_)) <;> (try simp at hc))) | (with_reducible refine Cont.go (by assumption) _ ?_) | (with_reducible refine Cnt.go (by assumption) ?_))
        all_goals (unfold Hold at *; rw [hv])
  · cases hr
set_option maxHeartbeats 1000000 in
theorem ok_rLook : PureOk Try.prog 51 gLook := by
  intro args r h
  obtain ⟨l, size, id, zs, rfl, hr⟩ := f4_inv h; clear h
  split at hr
  · rename_i hm
    cases hr
    obtain ⟨⟨s1, s2⟩, ⟨most, htb⟩, hlen4, has⟩ := hm
    have hE := (EnvOk.nil (P := Try.prog) (eq := fun _ => false) (own := fun _ => false) (mem := fun _ => false) EqOk.none)
    refine ⟨⟨Try.f51, Try.func51, by decide, rfl⟩, pure_of_T Try.func51 rfl (by simp [Try.ntmps51]) fun q => ?_⟩
    repeat' (first | (with_reducible refine T.sq fun K hK => ?_) | ((first | ((with_reducible refine T.reg hE ?hd ?_); (case hd => kernel_rfl)) | ((with_reducible refine T.any hE mixed ?hd ?hok ?_); (case hd => kernel_rfl); (case hok => kernel_rfl))); simp [*]; (repeat' (split; all_goals (rename_i hc; try simp [*])))) | ((with_reducible refine T.ret ?_); refine fin_pure ?_; simp [*]; try (change Hold _)) | (with_reducible refine T.block ?_) | ((with_reducible refine T.skip ?_); simp [*]) | ((with_reducible refine T.exit ?_); simp [*]) | ((with_reducible refine T.br fun K1 K2 hK1 hK2 => ?_); simp [*]; try ((refine Br.intro (fun hc => ?_) (fun hc => ?_)) <;> (try simp at hc))) | (with_reducible refine Cont.go (by assumption) _ ?_) | (with_reducible refine Cnt.go (by assumption) ?_))
    refine T.loop (fun n σ => ∃ j : Nat, n = zs.length - j ∧ σ.get 0 = .sl (rTb.encL l) .no ∧ σ.get 1 = .int .i64 size ∧ σ.get 2 = .int .i64 id ∧ σ.get 3 = .sl (encI .i64 zs) .no ∧ σ.get 9 = .int .i64 (atN size (zs.take j)) ∧ σ.get 14 = .sl (encI .i64 zs) .no ∧ σ.get 15 = .int .i64 zs.length ∧ σ.get 16 = .int .i64 j ∧ j ≤ zs.length) zs.length ⟨0, by simp [*, atN]⟩ ?_
    rintro n σ ⟨j, rfl, g0, g1, g2, g3, g4, g5, g6, g7, g8⟩
    by_cases hj : j < zs.length
    · have hw : IntKind.i64.wrap ((j : Int) + 1) = (j : Int) + 1 := wrap64 (by omega) (by omega)
      have h81 := at_81 s1 s2 (zs.take j).length (by rw [List.length_take]; omega)
      have h82 := at_81 s1 s2 (zs.take (j + 1)).length (by rw [List.length_take]; omega)
      have hb := at_range s1 s2 (zs.take j) (fun a ha => has a (List.mem_of_mem_take ha)) (by rw [List.length_take]; omega)
      have hb2 := at_range s1 s2 (zs.take (j + 1)) (fun a ha => has a (List.mem_of_mem_take ha)) (by rw [List.length_take]; omega)
      have hs := at_snoc size zs j hj
      have hmul : 0 ≤ atN size (zs.take j) * size ∧ atN size (zs.take j) * size ≤ 243 := by
        refine ⟨Int.mul_nonneg hb.1 (by omega), ?_⟩
        have h1 := Int.mul_le_mul (show atN size (zs.take j) ≤ 81 by omega) s2 (by omega) (by omega)
        omega
      have w1 : IntKind.i64.wrap (atN size (zs.take j) * size) = atN size (zs.take j) * size := wrap64 (by omega) (by omega)
      have w2 : IntKind.i64.wrap (atN size (zs.take j) * size + zs[j]) = atN size (zs.take (j + 1)) := by rw [← hs]; exact wrap64 (by omega) (by omega)
      clear hb hb2 hs hmul h81 h82
      repeat' (first | (with_reducible refine T.sq fun K hK => ?_) | ((first | ((with_reducible refine T.reg hE ?hd ?_); (case hd => kernel_rfl)) | ((with_reducible refine T.any hE mixed ?hd ?hok ?_); (case hd => kernel_rfl); (case hok => kernel_rfl))); simp [*]; (repeat' (split; all_goals (rename_i hc; try simp [*])))) | ((with_reducible refine T.ret ?_); refine fin_pure ?_; simp [*]; try (change Hold _)) | (with_reducible refine T.block ?_) | ((with_reducible refine T.skip ?_); simp [*]) | ((with_reducible refine T.exit ?_); simp [*]) | ((with_reducible refine T.br fun K1 K2 hK1 hK2 => ?_); simp [*]; try ((refine Br.intro (fun hc => ?_) (fun hc => ?_)) <;> (try simp at hc))) | (with_reducible refine Cont.go (by assumption) _ ?_) | (with_reducible refine Cnt.go (by assumption) ?_))
      exact ⟨_, by omega, j + 1, rfl, by omega, by omega⟩
    · have w8 : j = zs.length := by omega
      subst w8
      rw [List.take_length] at g4
      have hat := at_range s1 s2 zs has hlen4
      obtain ⟨z, hz⟩ := Int.eq_ofNat_of_zero_le hat.1
      have hll : l.length ≤ 8 := by
        unfold tbsOk at htb
        simp only [Bool.and_eq_true, decide_eq_true_eq] at htb
        exact htb.1
      rw [hz] at g4
      have hv0 : Hold (lookV l size id zs = match fdT l id zs.length with | some t => t.vals.getD z 0 | none => 0) := by unfold Hold lookV; rw [hz]; rfl
      repeat' (first | (with_reducible refine T.sq fun K hK => ?_) | ((first | ((with_reducible refine T.reg hE ?hd ?_); (case hd => kernel_rfl)) | ((with_reducible refine T.any hE mixed ?hd ?hok ?_); (case hd => kernel_rfl); (case hok => kernel_rfl))); simp [*]; (repeat' (split; all_goals (rename_i hc; try simp [*])))) | ((with_reducible refine T.ret ?_); refine fin_pure ?_; simp [*]; try (change Hold _)) | (with_reducible refine T.block ?_) | ((with_reducible refine T.skip ?_); simp [*]) | ((with_reducible refine T.exit ?_); simp [*]) | ((with_reducible refine T.br fun K1 K2 hK1 hK2 => ?_); simp [*]; try ((refine Br.intro (fun hc => ?_) (fun hc => ?_)) <;> (try simp at hc))) | (with_reducible refine Cont.go (by assumption) _ ?_) | (with_reducible refine Cnt.go (by assumption) ?_))
      refine T.loop (fun n σ => ∃ j : Nat, n = l.length - j ∧ σ.get 2 = .int .i64 id ∧ σ.get 3 = .sl (encI .i64 zs) .no ∧ σ.get 9 = .int .i64 z ∧ σ.get 26 = .sl (rTb.encL l) .no ∧ σ.get 27 = .int .i64 l.length ∧ σ.get 28 = .int .i64 j ∧ j ≤ l.length ∧ Hold (fdT l id zs.length = fdT (l.drop j) id zs.length)) l.length ⟨0, by simp [*, Hold]⟩ ?_
      clear g0 g1 g2 g3 g4 g5 g6 g7 g8 hj
      rintro n σ ⟨j, rfl, g1, g2, g3, g4, g5, g6, g7, g8⟩
      by_cases hj : j < l.length
      · have hw : IntKind.i64.wrap ((j : Int) + 1) = (j : Int) + 1 := wrap64 (by omega) (by omega)
        have hfd := fdT_drop l j hj id zs.length
        have htj := tb_at htb j hj
        by_cases w1 : l[j].id = id
        · by_cases w2 : l[j].args = zs.length
          · rw [if_pos ⟨w1, w2⟩] at hfd
            have hzl : z < l[j].vals.length := by
              have h1 := htj.2
              rw [w2, Int.toNat_natCast] at h1
              have h3 := hat.2
              omega
            have hzi : (z : Int) < (l[j].vals.length : Int) := by omega
            have hv : Hold (lookV l size id zs = l[j].vals[z]) := by
              unfold Hold at *
              rw [hv0, g8, hfd]
              simp [List.getD_eq_getElem?_getD, hzl]
            clear hv0 g8 hfd htj
            repeat' (first | (with_reducible refine T.sq fun K hK => ?_) | ((first | ((with_reducible refine T.reg hE ?hd ?_); (case hd => kernel_rfl)) | ((with_reducible refine T.any hE mixed ?hd ?hok ?_); (case hd => kernel_rfl); (case hok => kernel_rfl))); simp [*]; (repeat' (split; all_goals (rename_i hc; try simp [*])))) | ((with_reducible refine T.ret ?_); refine fin_pure ?_; simp [*]; try (change Hold _)) | (with_reducible refine T.block ?_) | ((with_reducible refine T.skip ?_); simp [*]) | ((with_reducible refine T.exit ?_); simp [*]) | ((with_reducible refine T.br fun K1 K2 hK1 hK2 => ?_); simp [*]; try ((refine Br.intro (fun hc => ?_) (fun hc => ?_)) <;> (try simp at hc))) | (with_reducible refine Cont.go (by assumption) _ ?_) | (with_reducible refine Cnt.go (by assumption) ?_))
            all_goals (unfold Hold at *; rw [hv])
          · rw [if_neg (fun h => w2 h.2)] at hfd
            have c4 : Hold (fdT l id zs.length = fdT (l.drop (j + 1)) id zs.length) := by unfold Hold at *; rw [g8, hfd]
            clear hfd g8 htj
            repeat' (first | (with_reducible refine T.sq fun K hK => ?_) | ((first | ((with_reducible refine T.reg hE ?hd ?_); (case hd => kernel_rfl)) | ((with_reducible refine T.any hE mixed ?hd ?hok ?_); (case hd => kernel_rfl); (case hok => kernel_rfl))); simp [*]; (repeat' (split; all_goals (rename_i hc; try simp [*])))) | ((with_reducible refine T.ret ?_); refine fin_pure ?_; simp [*]; try (change Hold _)) | (with_reducible refine T.block ?_) | ((with_reducible refine T.skip ?_); simp [*]) | ((with_reducible refine T.exit ?_); simp [*]) | ((with_reducible refine T.br fun K1 K2 hK1 hK2 => ?_); simp [*]; try ((refine Br.intro (fun hc => ?_) (fun hc => ?_)) <;> (try simp at hc))) | (with_reducible refine Cont.go (by assumption) _ ?_) | (with_reducible refine Cnt.go (by assumption) ?_))
            exact ⟨_, by omega, j + 1, rfl, by omega, by omega, c4⟩
        · rw [if_neg (fun h => w1 h.1)] at hfd
          have c4 : Hold (fdT l id zs.length = fdT (l.drop (j + 1)) id zs.length) := by unfold Hold at *; rw [g8, hfd]
          clear hfd g8 htj
          repeat' (first | (with_reducible refine T.sq fun K hK => ?_) | ((first | ((with_reducible refine T.reg hE ?hd ?_); (case hd => kernel_rfl)) | ((with_reducible refine T.any hE mixed ?hd ?hok ?_); (case hd => kernel_rfl); (case hok => kernel_rfl))); simp [*]; (repeat' (split; all_goals (rename_i hc; try simp [*])))) | ((with_reducible refine T.ret ?_); refine fin_pure ?_; simp [*]; try (change Hold _)) | (with_reducible refine T.block ?_) | ((with_reducible refine T.skip ?_); simp [*]) | ((with_reducible refine T.exit ?_); simp [*]) | ((with_reducible refine T.br fun K1 K2 hK1 hK2 => ?_); simp [*]; try ((refine Br.intro (fun hc => ?_) (fun hc => ?_)) <;> (try simp at hc))) | (with_reducible refine Cont.go (by assumption) _ ?_) | (with_reducible refine Cnt.go (by assumption) ?_))
          exact ⟨_, by omega, j + 1, rfl, by omega, by omega, c4⟩
      · have w8 : j = l.length := by omega
        have hv : Hold (lookV l size id zs = 0) := by unfold Hold at *; rw [hv0, g8, w8, List.drop_length]; rfl
        clear hv0 g8
        repeat' (first | (with_reducible refine T.sq fun K hK => ?_) | ((first | ((with_reducible refine T.reg hE ?hd ?_); (case hd => kernel_rfl)) | ((with_reducible refine T.any hE mixed ?hd ?hok ?_); (case hd => kernel_rfl); (case hok => kernel_rfl))); simp [*]; (repeat' (split; all_goals (rename_i hc; try simp [*])))) | ((with_reducible refine T.ret ?_); refine fin_pure ?_; simp [*]; try (change Hold _)) | (with_reducible refine T.block ?_) | ((with_reducible refine T.skip ?_); simp [*]) | ((with_reducible refine T.exit ?_); simp [*]) | ((with_reducible refine T.br fun K1 K2 hK1 hK2 => ?_); simp [*]; try ((refine Br.intro (fun hc => ?_) (fun hc => ?_)) <;> (try simp at hc))) | (with_reducible refine Cont.go (by assumption) _ ?_) | (with_reducible refine Cnt.go (by assumption) ?_))
        all_goals (unfold Hold at *; rw [hv])
  · cases hr
end Go.Proofs.Ytaacfmakfkaddaa.Ax
