/- Contracts: FreeCatches, FreeSafe, FreeBuilds, walked. -/
import Derived.Test.YtiippmhlkcbjmaaCxB
import Derived.Test.YtiippmhlkcbjmaaBxY
set_option linter.unusedVariables false
set_option linter.unusedSimpArgs false
namespace Go.Proofs.Ytiippmhlkcbjmaa.Ax
open Go Go.Proofs

def ffB (t : Ex) (x : Int) (a : Ex) : Bool := decide (ctErr t x a = 0) && decide (ctS t x a = 0)
@[simp] def gFreeFor : List V → Option V := f3 kE (kI .i64) kE fun t x a => some (.tup [.bool (ffB t x a), .int .i64 (ctErr t x a)])
theorem ok_FreeFor : PureOk Try.prog 30 gFreeFor := by
  intro args r h
  obtain ⟨t, x, a, rfl, ⟨⟩⟩ := f3_inv h
  clear h
  have hE := ((EnvOk.nil (P := Try.prog) (eq := fun _ => false) (own := fun _ => false) (mem := fun _ => false) EqOk.none).addf ok_Caught)
  refine ⟨⟨Try.f30, Try.func30, by decide, rfl⟩, pure_of_T Try.func30 rfl (by simp [Try.ntmps30]) fun q => ?_⟩
  by_cases v : ctErr t x a = 0
  · by_cases u : ctS t x a = 0
    · have hv : Hold (ffB t x a = true) := by unfold Hold ffB; simp [v, u]
      repeat' (first
        | (with_reducible refine T.sq fun K hK => ?_)
        | ((first | ((with_reducible refine T.reg hE ?hd ?_); (case hd => kernel_rfl)) | ((with_reducible refine T.any hE mixed ?hd ?hok ?_); (case hd => kernel_rfl); (case hok => kernel_rfl))); simp [*]; (repeat' (split; all_goals (rename_i hc; try simp [*]))))
        | ((with_reducible refine T.ret ?_); refine fin_pure ?_; simp [*]; try (change Hold _))
        | (with_reducible refine T.block ?_)
        | ((with_reducible refine T.skip ?_); simp [*])
        | ((with_reducible refine T.exit ?_); simp [*])
        | ((with_reducible refine T.br fun K1 K2 hK1 hK2 => ?_); simp [*]; try ((refine Br.intro (fun hc => ?_) (fun hc => ?_)) <;> (try simp at hc)))
        | (with_reducible refine Cont.go (by assumption) _ ?_)
        | (with_reducible refine Cnt.go (by assumption) ?_))
      all_goals (unfold Hold at *; rw [hv])
    · have hv : Hold (ffB t x a = false) := by unfold Hold ffB; simp [v, u]
      repeat' (first
        | (with_reducible refine T.sq fun K hK => ?_)
        | ((first | ((with_reducible refine T.reg hE ?hd ?_); (case hd => kernel_rfl)) | ((with_reducible refine T.any hE mixed ?hd ?hok ?_); (case hd => kernel_rfl); (case hok => kernel_rfl))); simp [*]; (repeat' (split; all_goals (rename_i hc; try simp [*]))))
        | ((with_reducible refine T.ret ?_); refine fin_pure ?_; simp [*]; try (change Hold _))
        | (with_reducible refine T.block ?_)
        | ((with_reducible refine T.skip ?_); simp [*])
        | ((with_reducible refine T.exit ?_); simp [*])
        | ((with_reducible refine T.br fun K1 K2 hK1 hK2 => ?_); simp [*]; try ((refine Br.intro (fun hc => ?_) (fun hc => ?_)) <;> (try simp at hc)))
        | (with_reducible refine Cont.go (by assumption) _ ?_)
        | (with_reducible refine Cnt.go (by assumption) ?_))
      all_goals (unfold Hold at *; rw [hv])
  · have hv : Hold (ffB t x a = false) := by unfold Hold ffB; simp [v]
    repeat' (first
      | (with_reducible refine T.sq fun K hK => ?_)
      | ((first | ((with_reducible refine T.reg hE ?hd ?_); (case hd => kernel_rfl)) | ((with_reducible refine T.any hE mixed ?hd ?hok ?_); (case hd => kernel_rfl); (case hok => kernel_rfl))); simp [*]; (repeat' (split; all_goals (rename_i hc; try simp [*]))))
      | ((with_reducible refine T.ret ?_); refine fin_pure ?_; simp [*]; try (change Hold _))
      | (with_reducible refine T.block ?_)
      | ((with_reducible refine T.skip ?_); simp [*])
      | ((with_reducible refine T.exit ?_); simp [*])
      | ((with_reducible refine T.br fun K1 K2 hK1 hK2 => ?_); simp [*]; try ((refine Br.intro (fun hc => ?_) (fun hc => ?_)) <;> (try simp at hc)))
      | (with_reducible refine Cont.go (by assumption) _ ?_)
      | (with_reducible refine Cnt.go (by assumption) ?_))
    all_goals (unfold Hold at *; rw [hv])
theorem ok_rFreeFor : PureOk Try.prog 31 gFreeFor := by
  intro args r h
  obtain ⟨t, x, a, rfl, ⟨⟩⟩ := f3_inv h
  clear h
  have hE := ((EnvOk.nil (P := Try.prog) (eq := fun _ => false) (own := fun _ => false) (mem := fun _ => false) EqOk.none).addf ok_rCaught)
  refine ⟨⟨Try.f31, Try.func31, by decide, rfl⟩, pure_of_T Try.func31 rfl (by simp [Try.ntmps31]) fun q => ?_⟩
  by_cases v : ctErr t x a = 0
  · by_cases u : ctS t x a = 0
    · have hv : Hold (ffB t x a = true) := by unfold Hold ffB; simp [v, u]
      repeat' (first
        | (with_reducible refine T.sq fun K hK => ?_)
        | ((first | ((with_reducible refine T.reg hE ?hd ?_); (case hd => kernel_rfl)) | ((with_reducible refine T.any hE mixed ?hd ?hok ?_); (case hd => kernel_rfl); (case hok => kernel_rfl))); simp [*]; (repeat' (split; all_goals (rename_i hc; try simp [*]))))
        | ((with_reducible refine T.ret ?_); refine fin_pure ?_; simp [*]; try (change Hold _))
        | (with_reducible refine T.block ?_)
        | ((with_reducible refine T.skip ?_); simp [*])
        | ((with_reducible refine T.exit ?_); simp [*])
        | ((with_reducible refine T.br fun K1 K2 hK1 hK2 => ?_); simp [*]; try ((refine Br.intro (fun hc => ?_) (fun hc => ?_)) <;> (try simp at hc)))
        | (with_reducible refine Cont.go (by assumption) _ ?_)
        | (with_reducible refine Cnt.go (by assumption) ?_))
      all_goals (unfold Hold at *; rw [hv])
    · have hv : Hold (ffB t x a = false) := by unfold Hold ffB; simp [v, u]
      repeat' (first
        | (with_reducible refine T.sq fun K hK => ?_)
        | ((first | ((with_reducible refine T.reg hE ?hd ?_); (case hd => kernel_rfl)) | ((with_reducible refine T.any hE mixed ?hd ?hok ?_); (case hd => kernel_rfl); (case hok => kernel_rfl))); simp [*]; (repeat' (split; all_goals (rename_i hc; try simp [*]))))
        | ((with_reducible refine T.ret ?_); refine fin_pure ?_; simp [*]; try (change Hold _))
        | (with_reducible refine T.block ?_)
        | ((with_reducible refine T.skip ?_); simp [*])
        | ((with_reducible refine T.exit ?_); simp [*])
        | ((with_reducible refine T.br fun K1 K2 hK1 hK2 => ?_); simp [*]; try ((refine Br.intro (fun hc => ?_) (fun hc => ?_)) <;> (try simp at hc)))
        | (with_reducible refine Cont.go (by assumption) _ ?_)
        | (with_reducible refine Cnt.go (by assumption) ?_))
      all_goals (unfold Hold at *; rw [hv])
  · have hv : Hold (ffB t x a = false) := by unfold Hold ffB; simp [v]
    repeat' (first
      | (with_reducible refine T.sq fun K hK => ?_)
      | ((first | ((with_reducible refine T.reg hE ?hd ?_); (case hd => kernel_rfl)) | ((with_reducible refine T.any hE mixed ?hd ?hok ?_); (case hd => kernel_rfl); (case hok => kernel_rfl))); simp [*]; (repeat' (split; all_goals (rename_i hc; try simp [*]))))
      | ((with_reducible refine T.ret ?_); refine fin_pure ?_; simp [*]; try (change Hold _))
      | (with_reducible refine T.block ?_)
      | ((with_reducible refine T.skip ?_); simp [*])
      | ((with_reducible refine T.exit ?_); simp [*])
      | ((with_reducible refine T.br fun K1 K2 hK1 hK2 => ?_); simp [*]; try ((refine Br.intro (fun hc => ?_) (fun hc => ?_)) <;> (try simp at hc)))
      | (with_reducible refine Cont.go (by assumption) _ ?_)
      | (with_reducible refine Cnt.go (by assumption) ?_))
    all_goals (unfold Hold at *; rw [hv])
theorem ok_FreeCatches : PureOk Try.prog 5 (f3 kE (kI .i64) kE fun _ _ _ => some (.bool true)) := by
  intro args r h
  obtain ⟨t, x, a, rfl, ⟨⟩⟩ := f3_inv h
  clear h
  have hE := (((((EnvOk.nil (P := Try.prog) (eq := fun _ => false) (own := fun _ => false) (mem := fun _ => false) EqOk.none).addf ok_Caught).addf ok_rCaught).addf ok_FreeFor).addf ok_rFreeFor)
  refine ⟨⟨Try.f5, Try.func5, by decide, rfl⟩, pure_of_T Try.func5 rfl (by simp [Try.ntmps5]) fun q => ?_⟩
  repeat' (first
    | (with_reducible refine T.sq fun K hK => ?_)
    | ((first | ((with_reducible refine T.reg hE ?hd ?_); (case hd => kernel_rfl)) | ((with_reducible refine T.any hE mixed ?hd ?hok ?_); (case hd => kernel_rfl); (case hok => kernel_rfl))); simp [*]; (repeat' (split; all_goals (rename_i hc; try simp [*]))))
    | ((with_reducible refine T.ret ?_); refine fin_pure ?_; simp [*]; try (change Hold _))
    | (with_reducible refine T.block ?_)
    | ((with_reducible refine T.skip ?_); simp [*])
    | ((with_reducible refine T.exit ?_); simp [*])
    | ((with_reducible refine T.br fun K1 K2 hK1 hK2 => ?_); simp [*]; try ((refine Br.intro (fun hc => ?_) (fun hc => ?_)) <;> (try simp at hc)))
    | (with_reducible refine Cont.go (by assumption) _ ?_)
    | (with_reducible refine Cnt.go (by assumption) ?_))
  all_goals (unfold Hold; first | rfl | (simp [*]; done))
theorem setV_good {F : Ex → Nat} {e : Ex} (h : rightE e = 0) : setV F e = .tup [.int .u64 (F e : Nat), .int .i64 0] := by rw [setV_eq, if_pos h, h]
theorem andNot_zero {a b : Nat} (ha : a < 18446744073709551616) (hb : b < 18446744073709551616) (h : ∀ j, b.testBit j = false → a.testBit j = false) : bits .andNot .u64 (a : Int) (b : Int) = 0 := by
  rw [bits_andNot ha hb, ndiff_dif ha hb]
  have : dif a b = 0 := by
    apply Nat.eq_of_testBit_eq
    intro j
    rw [dif_bit, Nat.zero_testBit]
    cases hj : b.testBit j
    · rw [h j hj]; rfl
    · simp
  rw [this]; rfl
theorem var_right {x : Int} (h : 0 ≤ x ∧ x ≤ 63) : rightE (.mk 1 x []) = 0 := by
  refine right_of ?_ ?_ ?_
  · rw [nodesN_eq, cntE, cntL]; omega
  · rw [depE, depL]; omega
  · rw [allX_eq]
    simp only [Ex.kids_mk]
    rw [show shapedX (.mk 1 x []) = true by unfold shapedX mostOf; simp [h.1, h.2]]
    simp
set_option maxHeartbeats 1000000 in
theorem ok_FreeSafe : PureOk Try.prog 12 (f3 kE (kI .i64) kE fun _ _ _ => some (.bool true)) := by
  intro args r h
  obtain ⟨t, x, a, rfl, ⟨⟩⟩ := f3_inv h
  clear h
  have hE := ((((((((EnvOk.nil (P := Try.prog) (eq := fun _ => false) (own := fun _ => false) (mem := fun _ => false) EqOk.none).addf ok_rIsTerm).addf ok_rRight).addf ok_Caught).addf ok_Vars).addf ok_Bound).addf ok_NotFree).addf ok_FreeFor)
  refine ⟨⟨Try.f12, Try.func12, by decide, rfl⟩, pure_of_T Try.func12 rfl (by simp [Try.ntmps12]) fun q => ?_⟩
  by_cases v : (rightE t == 0 && isT t) = true
  · by_cases w2 : rightE a = 0
    · by_cases c1 : x < 0
      · repeat' (first
          | (with_reducible refine T.sq fun K hK => ?_)
          | ((first | ((with_reducible refine T.reg hE ?hd ?_); (case hd => kernel_rfl)) | ((with_reducible refine T.any hE mixed ?hd ?hok ?_); (case hd => kernel_rfl); (case hok => kernel_rfl))); simp [*]; (repeat' (split; all_goals (rename_i hc; try simp [*]))))
          | ((with_reducible refine T.ret ?_); refine fin_pure ?_; simp [*]; try (change Hold _))
          | (with_reducible refine T.block ?_)
          | ((with_reducible refine T.skip ?_); simp [*])
          | ((with_reducible refine T.exit ?_); simp [*])
          | ((with_reducible refine T.br fun K1 K2 hK1 hK2 => ?_); simp [*]; try ((refine Br.intro (fun hc => ?_) (fun hc => ?_)) <;> (try simp at hc)))
          | (with_reducible refine Cont.go (by assumption) _ ?_)
          | (with_reducible refine Cnt.go (by assumption) ?_))
        all_goals (unfold Hold; rfl)
      by_cases c2 : 63 < x
      · repeat' (first
          | (with_reducible refine T.sq fun K hK => ?_)
          | ((first | ((with_reducible refine T.reg hE ?hd ?_); (case hd => kernel_rfl)) | ((with_reducible refine T.any hE mixed ?hd ?hok ?_); (case hd => kernel_rfl); (case hok => kernel_rfl))); simp [*]; (repeat' (split; all_goals (rename_i hc; try simp [*]))))
          | ((with_reducible refine T.ret ?_); refine fin_pure ?_; simp [*]; try (change Hold _))
          | (with_reducible refine T.block ?_)
          | ((with_reducible refine T.skip ?_); simp [*])
          | ((with_reducible refine T.exit ?_); simp [*])
          | ((with_reducible refine T.br fun K1 K2 hK1 hK2 => ?_); simp [*]; try ((refine Br.intro (fun hc => ?_) (fun hc => ?_)) <;> (try simp at hc)))
          | (with_reducible refine Cont.go (by assumption) _ ?_)
          | (with_reducible refine Cnt.go (by assumption) ?_))
        all_goals (unfold Hold; rfl)
      have hx : 0 ≤ x ∧ x ≤ 63 := by omega
      obtain ⟨w1, w3⟩ : rightE t = 0 ∧ isT t = true := by simpa using v
      have hot : allX t = true := (right_zero w1).2.2
      have hoa : allX a = true := (right_zero w2).2.2
      have h1 : ctErr t x a = 0 := by
        have hb : bothE t a = 0 := by unfold bothE; rw [if_neg (by omega)]; exact w2
        unfold ctErr; rw [if_pos hx, if_neg (by omega), if_pos w3]
      have h2 : ctErr (.mk 1 x []) x a = 0 := by
        have hb : bothE (.mk 1 x []) a = 0 := by unfold bothE; rw [if_neg (by rw [var_right hx]; omega)]; exact w2
        unfold ctErr; rw [if_pos hx, if_neg (by omega), if_pos (by rfl)]
      have h3 : ctS (.mk 1 x []) x a = 0 := by
        rw [ct_good h2]
        have : vaE (.mk 1 x []) = pw x.toNat := by
          unfold vaE; rw [boE, ocE, boL]; simp [binP]
        rw [this, cat_self x hx a hoa]
      have h4 : ffB (.mk 1 x []) x a = true := by unfold ffB; rw [h2, h3]; rfl
      have h5 : ctS t x a = catE (vaE t) x a := ct_good h1
      have l1 := vaE_lt hot
      have l2 := boE_lt hoa
      have l3 := cat_lt (x := x) (e := a) l1
      have n1 := andNot_zero l3 l1 fun j hj => cat_own _ x j hj a
      have n2 := andNot_zero l3 l2 fun j hj => cat_bo _ x j a hj
      have s1 : setV vaE t = _ := setV_good w1
      have s2 : setV boE a = _ := setV_good w2
      have s3 : nfV x a = .tup [.bool (!hasB (frE a) x), .int .i64 0] := by unfold nfV; rw [if_pos hx, w2]; simp
      have z1 : hasB (frE a) x = false → catE (vaE t) x a = 0 := cat_no
      have z2 : vaE t = 0 → catE (vaE t) x a = 0 := fun h => by
        rw [h]
        apply Nat.eq_of_testBit_eq
        intro j
        rw [cat_own 0 x j (by simp) a]; simp
      generalize catE (vaE t) x a = S at *
      generalize vaE t = U at *
      clear hx v
      by_cases y1 : hasB (frE a) x = true
      · by_cases y2 : U = 0
        · have y3 := z2 y2
          subst y3
          subst y2
          have m1 : bits .andNot .u64 (0 : Int) (0 : Int) = 0 := n1
          have m2 : bits .andNot .u64 (0 : Int) (boE a : Int) = 0 := n2
          clear z1 z2 n1 n2
          repeat' (first
            | (with_reducible refine T.sq fun K hK => ?_)
            | ((first | ((with_reducible refine T.reg hE ?hd ?_); (case hd => kernel_rfl)) | ((with_reducible refine T.any hE mixed ?hd ?hok ?_); (case hd => kernel_rfl); (case hok => kernel_rfl))); simp [*]; (repeat' (split; all_goals (rename_i hc; try simp [*]))))
            | ((with_reducible refine T.ret ?_); refine fin_pure ?_; simp [*]; try (change Hold _))
            | (with_reducible refine T.block ?_)
            | ((with_reducible refine T.skip ?_); simp [*])
            | ((with_reducible refine T.exit ?_); simp [*])
            | ((with_reducible refine T.br fun K1 K2 hK1 hK2 => ?_); simp [*]; try ((refine Br.intro (fun hc => ?_) (fun hc => ?_)) <;> (try simp at hc)))
            | (with_reducible refine Cont.go (by assumption) _ ?_)
            | (with_reducible refine Cnt.go (by assumption) ?_))
          all_goals (unfold Hold; first | rfl | (simp [*]; done))
        · clear z1 z2
          repeat' (first
            | (with_reducible refine T.sq fun K hK => ?_)
            | ((first | ((with_reducible refine T.reg hE ?hd ?_); (case hd => kernel_rfl)) | ((with_reducible refine T.any hE mixed ?hd ?hok ?_); (case hd => kernel_rfl); (case hok => kernel_rfl))); simp [*]; (repeat' (split; all_goals (rename_i hc; try simp [*]))))
            | ((with_reducible refine T.ret ?_); refine fin_pure ?_; simp [*]; try (change Hold _))
            | (with_reducible refine T.block ?_)
            | ((with_reducible refine T.skip ?_); simp [*])
            | ((with_reducible refine T.exit ?_); simp [*])
            | ((with_reducible refine T.br fun K1 K2 hK1 hK2 => ?_); simp [*]; try ((refine Br.intro (fun hc => ?_) (fun hc => ?_)) <;> (try simp at hc)))
            | (with_reducible refine Cont.go (by assumption) _ ?_)
            | (with_reducible refine Cnt.go (by assumption) ?_))
          all_goals (unfold Hold; first | rfl | (simp [*]; done))
      · rw [Bool.not_eq_true] at y1
        have y3 := z1 y1
        subst y3
        have m1 : bits .andNot .u64 (0 : Int) (U : Int) = 0 := n1
        have m2 : bits .andNot .u64 (0 : Int) (boE a : Int) = 0 := n2
        clear z1 z2 n1 n2
        by_cases y2 : U = 0
        · subst y2
          have m1 : bits .andNot .u64 (0 : Int) (0 : Int) = 0 := m1
          repeat' (first
            | (with_reducible refine T.sq fun K hK => ?_)
            | ((first | ((with_reducible refine T.reg hE ?hd ?_); (case hd => kernel_rfl)) | ((with_reducible refine T.any hE mixed ?hd ?hok ?_); (case hd => kernel_rfl); (case hok => kernel_rfl))); simp [*]; (repeat' (split; all_goals (rename_i hc; try simp [*]))))
            | ((with_reducible refine T.ret ?_); refine fin_pure ?_; simp [*]; try (change Hold _))
            | (with_reducible refine T.block ?_)
            | ((with_reducible refine T.skip ?_); simp [*])
            | ((with_reducible refine T.exit ?_); simp [*])
            | ((with_reducible refine T.br fun K1 K2 hK1 hK2 => ?_); simp [*]; try ((refine Br.intro (fun hc => ?_) (fun hc => ?_)) <;> (try simp at hc)))
            | (with_reducible refine Cont.go (by assumption) _ ?_)
            | (with_reducible refine Cnt.go (by assumption) ?_))
          all_goals (unfold Hold; first | rfl | (simp [*]; done))
        · repeat' (first
            | (with_reducible refine T.sq fun K hK => ?_)
            | ((first | ((with_reducible refine T.reg hE ?hd ?_); (case hd => kernel_rfl)) | ((with_reducible refine T.any hE mixed ?hd ?hok ?_); (case hd => kernel_rfl); (case hok => kernel_rfl))); simp [*]; (repeat' (split; all_goals (rename_i hc; try simp [*]))))
            | ((with_reducible refine T.ret ?_); refine fin_pure ?_; simp [*]; try (change Hold _))
            | (with_reducible refine T.block ?_)
            | ((with_reducible refine T.skip ?_); simp [*])
            | ((with_reducible refine T.exit ?_); simp [*])
            | ((with_reducible refine T.br fun K1 K2 hK1 hK2 => ?_); simp [*]; try ((refine Br.intro (fun hc => ?_) (fun hc => ?_)) <;> (try simp at hc)))
            | (with_reducible refine Cont.go (by assumption) _ ?_)
            | (with_reducible refine Cnt.go (by assumption) ?_))
          all_goals (unfold Hold; first | rfl | (simp [*]; done))
    · repeat' (first
        | (with_reducible refine T.sq fun K hK => ?_)
        | ((first | ((with_reducible refine T.reg hE ?hd ?_); (case hd => kernel_rfl)) | ((with_reducible refine T.any hE mixed ?hd ?hok ?_); (case hd => kernel_rfl); (case hok => kernel_rfl))); simp [*]; (repeat' (split; all_goals (rename_i hc; try simp [*]))))
        | ((with_reducible refine T.ret ?_); refine fin_pure ?_; simp [*]; try (change Hold _))
        | (with_reducible refine T.block ?_)
        | ((with_reducible refine T.skip ?_); simp [*])
        | ((with_reducible refine T.exit ?_); simp [*])
        | ((with_reducible refine T.br fun K1 K2 hK1 hK2 => ?_); simp [*]; try ((refine Br.intro (fun hc => ?_) (fun hc => ?_)) <;> (try simp at hc)))
        | (with_reducible refine Cont.go (by assumption) _ ?_)
        | (with_reducible refine Cnt.go (by assumption) ?_))
      all_goals (unfold Hold; rfl)
  · rw [Bool.not_eq_true] at v
    repeat' (first
      | (with_reducible refine T.sq fun K hK => ?_)
      | ((first | ((with_reducible refine T.reg hE ?hd ?_); (case hd => kernel_rfl)) | ((with_reducible refine T.any hE mixed ?hd ?hok ?_); (case hd => kernel_rfl); (case hok => kernel_rfl))); simp [*]; (repeat' (split; all_goals (rename_i hc; try simp [*]))))
      | ((with_reducible refine T.ret ?_); refine fin_pure ?_; simp [*]; try (change Hold _))
      | (with_reducible refine T.block ?_)
      | ((with_reducible refine T.skip ?_); simp [*])
      | ((with_reducible refine T.exit ?_); simp [*])
      | ((with_reducible refine T.br fun K1 K2 hK1 hK2 => ?_); simp [*]; try ((refine Br.intro (fun hc => ?_) (fun hc => ?_)) <;> (try simp at hc)))
      | (with_reducible refine Cont.go (by assumption) _ ?_)
      | (with_reducible refine Cnt.go (by assumption) ?_))
    all_goals (unfold Hold; rfl)
theorem imp_sets (a b : Ex) : frE (.mk 6 0 [a, b]) = frE a ||| frE b := by
  rw [frE, frL, frL, frL]; simp [binP, dif]
theorem all_fr (a : Ex) (x : Int) : frE (.mk 7 x [a]) = dif (frE a) (pw x.toNat) := by
  rw [frE, frL, frL]; simp [binP]
theorem all_bo (a : Ex) (x : Int) : boE (.mk 7 x [a]) = boE a ||| pw x.toNat := by
  rw [boE, boL, boL]; simp [binP, Nat.or_comm]
theorem all_va (a : Ex) (x : Int) : vaE (.mk 7 x [a]) = vaE a ||| pw x.toNat := by
  unfold vaE
  rw [all_bo, ocE, ocL, ocL]
  apply Nat.eq_of_testBit_eq
  intro j
  simp only [Nat.testBit_or]
  cases (boE a).testBit j <;> cases (pw x.toNat).testBit j <;> cases h : (ocE a).testBit j <;> simp [h]
theorem fr_va (a : Ex) : frE a ||| boE a = vaE a &&& (frE a ||| boE a) := by
  unfold vaE
  apply Nat.eq_of_testBit_eq
  intro j
  have := fr_oc j a
  simp only [Nat.testBit_or, Nat.testBit_and]
  cases h1 : (boE a).testBit j <;> cases h2 : (ocE a).testBit j <;> cases h3 : (frE a).testBit j <;> simp_all
set_option maxHeartbeats 2000000 in
theorem ok_FreeBuilds : PureOk Try.prog 3 (f3 kE kE (kI .i64) fun _ _ _ => some (.bool true)) := by
  intro args r h
  obtain ⟨a, b, x, rfl, ⟨⟩⟩ := f3_inv h
  clear h
  have hE := (((((((EnvOk.nil (P := Try.prog) (eq := fun _ => false) (own := fun _ => false) (mem := fun _ => false) EqOk.none).addf ok_rIsForm).addf ok_Copy).addf ok_rRight).addf ok_Free).addf ok_Vars).addf ok_Bound)
  have hr2 : List.range 2 = [0, 1] := rfl
  have hr1 : List.range 1 = [0] := rfl
  refine ⟨⟨Try.f3, Try.func3, by decide, rfl⟩, pure_of_T Try.func3 rfl (by simp [Try.ntmps3]) fun q => ?_⟩
  by_cases v : (rightE a == 0 && !isT a) = true
  · by_cases w : (rightE b == 0 && !isT b) = true
    · by_cases c1 : x < 0
      · repeat' (first
          | (with_reducible refine T.sq fun K hK => ?_)
          | ((first | ((with_reducible refine T.reg hE ?hd ?_); (case hd => kernel_rfl)) | ((with_reducible refine T.any hE mixed ?hd ?hok ?_); (case hd => kernel_rfl); (case hok => kernel_rfl))); simp [*]; (repeat' (split; all_goals (rename_i hc; try simp [*]))))
          | ((with_reducible refine T.ret ?_); refine fin_pure ?_; simp [*]; try (change Hold _))
          | (with_reducible refine T.block ?_)
          | ((with_reducible refine T.skip ?_); simp [*])
          | ((with_reducible refine T.exit ?_); simp [*])
          | ((with_reducible refine T.br fun K1 K2 hK1 hK2 => ?_); simp [*]; try ((refine Br.intro (fun hc => ?_) (fun hc => ?_)) <;> (try simp at hc)))
          | (with_reducible refine Cont.go (by assumption) _ ?_)
          | (with_reducible refine Cnt.go (by assumption) ?_))
        all_goals (unfold Hold; rfl)
      by_cases c2 : 63 < x
      · repeat' (first
          | (with_reducible refine T.sq fun K hK => ?_)
          | ((first | ((with_reducible refine T.reg hE ?hd ?_); (case hd => kernel_rfl)) | ((with_reducible refine T.any hE mixed ?hd ?hok ?_); (case hd => kernel_rfl); (case hok => kernel_rfl))); simp [*]; (repeat' (split; all_goals (rename_i hc; try simp [*]))))
          | ((with_reducible refine T.ret ?_); refine fin_pure ?_; simp [*]; try (change Hold _))
          | (with_reducible refine T.block ?_)
          | ((with_reducible refine T.skip ?_); simp [*])
          | ((with_reducible refine T.exit ?_); simp [*])
          | ((with_reducible refine T.br fun K1 K2 hK1 hK2 => ?_); simp [*]; try ((refine Br.intro (fun hc => ?_) (fun hc => ?_)) <;> (try simp at hc)))
          | (with_reducible refine Cont.go (by assumption) _ ?_)
          | (with_reducible refine Cnt.go (by assumption) ?_))
        all_goals (unfold Hold; rfl)
      have hx : 0 ≤ x ∧ x ≤ 63 := by omega
      obtain ⟨v1, v2⟩ : rightE a = 0 ∧ isT a = false := by simpa using v
      obtain ⟨w1, w2⟩ : rightE b = 0 ∧ isT b = false := by simpa using w
      have hoa : allX a = true := (right_zero v1).2.2
      have hob : allX b = true := (right_zero w1).2.2
      have sa := small_all hoa
      have sb := small_all hob
      by_cases u1 : rightE (.mk 6 0 [a, b]) = 0
      · by_cases u2 : rightE (.mk 7 x [a]) = 0
        · have s1 : setV frE a = _ := setV_good v1
          have s2 : setV frE b = _ := setV_good w1
          have s3 : setV frE (.mk 6 0 [a, b]) = _ := setV_good u1
          have s4 : setV frE (.mk 7 x [a]) = _ := setV_good u2
          have s5 : setV vaE a = _ := setV_good v1
          have s6 : setV vaE (.mk 7 x [a]) = _ := setV_good u2
          have s7 : setV boE a = _ := setV_good v1
          have s8 : setV boE (.mk 7 x [a]) = _ := setV_good u2
          rw [imp_sets] at s3
          rw [all_fr] at s4
          rw [all_va] at s6
          rw [all_bo] at s8
          have hrem : x.tmod 64 = x := by rw [Int.tmod_eq_emod_of_nonneg hx.1]; omega
          obtain ⟨m, hm⟩ := Int.eq_ofNat_of_zero_le hx.1
          have hs0 : IntKind.u64.wrap x = x := by rw [hm]; exact wrap64u (by omega)
          have hs2 : IntKind.u64.wrap (2 ^ min x.toNat IntKind.u64.bits) = (pw x.toNat : Nat) := shl_pw (by omega)
          have x0 := hx.1
          have lp := pw_lt (n := x.toNat) (by omega)
          have la := frE_lt hoa
          have lb := frE_lt hob
          have lc := boE_lt hoa
          have lv := vaE_lt hoa
          have ld := or_lt la lc
          have b1 : bits .or .u64 (frE a : Nat) (frE b : Nat) = ((frE a ||| frE b : Nat) : Int) := bits_or rfl (by simpa [IntKind.bits] using la) (by simpa [IntKind.bits] using lb)
          have b2 : bits .andNot .u64 (frE a : Nat) (pw x.toNat : Nat) = ((dif (frE a) (pw x.toNat) : Nat) : Int) := by rw [bits_andNot la lp, ndiff_dif la lp]
          have b3 : bits .or .u64 (vaE a : Nat) (pw x.toNat : Nat) = ((vaE a ||| pw x.toNat : Nat) : Int) := bits_or rfl (by simpa [IntKind.bits] using lv) (by simpa [IntKind.bits] using lp)
          have b4 : bits .or .u64 (boE a : Nat) (pw x.toNat : Nat) = ((boE a ||| pw x.toNat : Nat) : Int) := bits_or rfl (by simpa [IntKind.bits] using lc) (by simpa [IntKind.bits] using lp)
          have b5 : bits .or .u64 (frE a : Nat) (boE a : Nat) = ((frE a ||| boE a : Nat) : Int) := bits_or rfl (by simpa [IntKind.bits] using la) (by simpa [IntKind.bits] using lc)
          have b6 : bits .and .u64 (vaE a : Nat) ((frE a ||| boE a : Nat) : Int) = ((frE a ||| boE a : Nat) : Int) := by
            have := bits_and (k := .u64) rfl (a := vaE a) (b := frE a ||| boE a) (by simpa [IntKind.bits] using lv) (by simpa [IntKind.bits] using ld)
            rw [this, ← fr_va]
          generalize pw x.toNat = bit at *
          clear hx v w hm
          repeat' (first
            | (with_reducible refine T.sq fun K hK => ?_)
            | ((first | ((with_reducible refine T.reg hE ?hd ?_); (case hd => kernel_rfl)) | ((with_reducible refine T.any hE mixed ?hd ?hok ?_); (case hd => kernel_rfl); (case hok => kernel_rfl))); simp [*]; (repeat' (split; all_goals (rename_i hc; try simp [*]))))
            | ((with_reducible refine T.ret ?_); refine fin_pure ?_; simp [*]; try (change Hold _))
            | (with_reducible refine T.block ?_)
            | ((with_reducible refine T.skip ?_); simp [*])
            | ((with_reducible refine T.exit ?_); simp [*])
            | ((with_reducible refine T.br fun K1 K2 hK1 hK2 => ?_); simp [*]; try ((refine Br.intro (fun hc => ?_) (fun hc => ?_)) <;> (try simp at hc)))
            | (with_reducible refine Cont.go (by assumption) _ ?_)
            | (with_reducible refine Cnt.go (by assumption) ?_))
          all_goals (unfold Hold; first | rfl | (simp [*]; done))
        · clear hx v w
          repeat' (first
            | (with_reducible refine T.sq fun K hK => ?_)
            | ((first | ((with_reducible refine T.reg hE ?hd ?_); (case hd => kernel_rfl)) | ((with_reducible refine T.any hE mixed ?hd ?hok ?_); (case hd => kernel_rfl); (case hok => kernel_rfl))); simp [*]; (repeat' (split; all_goals (rename_i hc; try simp [*]))))
            | ((with_reducible refine T.ret ?_); refine fin_pure ?_; simp [*]; try (change Hold _))
            | (with_reducible refine T.block ?_)
            | ((with_reducible refine T.skip ?_); simp [*])
            | ((with_reducible refine T.exit ?_); simp [*])
            | ((with_reducible refine T.br fun K1 K2 hK1 hK2 => ?_); simp [*]; try ((refine Br.intro (fun hc => ?_) (fun hc => ?_)) <;> (try simp at hc)))
            | (with_reducible refine Cont.go (by assumption) _ ?_)
            | (with_reducible refine Cnt.go (by assumption) ?_))
          all_goals (unfold Hold; rfl)
      · clear hx v w
        repeat' (first
          | (with_reducible refine T.sq fun K hK => ?_)
          | ((first | ((with_reducible refine T.reg hE ?hd ?_); (case hd => kernel_rfl)) | ((with_reducible refine T.any hE mixed ?hd ?hok ?_); (case hd => kernel_rfl); (case hok => kernel_rfl))); simp [*]; (repeat' (split; all_goals (rename_i hc; try simp [*]))))
          | ((with_reducible refine T.ret ?_); refine fin_pure ?_; simp [*]; try (change Hold _))
          | (with_reducible refine T.block ?_)
          | ((with_reducible refine T.skip ?_); simp [*])
          | ((with_reducible refine T.exit ?_); simp [*])
          | ((with_reducible refine T.br fun K1 K2 hK1 hK2 => ?_); simp [*]; try ((refine Br.intro (fun hc => ?_) (fun hc => ?_)) <;> (try simp at hc)))
          | (with_reducible refine Cont.go (by assumption) _ ?_)
          | (with_reducible refine Cnt.go (by assumption) ?_))
        all_goals (unfold Hold; rfl)
    · rw [Bool.not_eq_true] at w
      repeat' (first
        | (with_reducible refine T.sq fun K hK => ?_)
        | ((first | ((with_reducible refine T.reg hE ?hd ?_); (case hd => kernel_rfl)) | ((with_reducible refine T.any hE mixed ?hd ?hok ?_); (case hd => kernel_rfl); (case hok => kernel_rfl))); simp [*]; (repeat' (split; all_goals (rename_i hc; try simp [*]))))
        | ((with_reducible refine T.ret ?_); refine fin_pure ?_; simp [*]; try (change Hold _))
        | (with_reducible refine T.block ?_)
        | ((with_reducible refine T.skip ?_); simp [*])
        | ((with_reducible refine T.exit ?_); simp [*])
        | ((with_reducible refine T.br fun K1 K2 hK1 hK2 => ?_); simp [*]; try ((refine Br.intro (fun hc => ?_) (fun hc => ?_)) <;> (try simp at hc)))
        | (with_reducible refine Cont.go (by assumption) _ ?_)
        | (with_reducible refine Cnt.go (by assumption) ?_))
      all_goals (unfold Hold; rfl)
  · rw [Bool.not_eq_true] at v
    repeat' (first
      | (with_reducible refine T.sq fun K hK => ?_)
      | ((first | ((with_reducible refine T.reg hE ?hd ?_); (case hd => kernel_rfl)) | ((with_reducible refine T.any hE mixed ?hd ?hok ?_); (case hd => kernel_rfl); (case hok => kernel_rfl))); simp [*]; (repeat' (split; all_goals (rename_i hc; try simp [*]))))
      | ((with_reducible refine T.ret ?_); refine fin_pure ?_; simp [*]; try (change Hold _))
      | (with_reducible refine T.block ?_)
      | ((with_reducible refine T.skip ?_); simp [*])
      | ((with_reducible refine T.exit ?_); simp [*])
      | ((with_reducible refine T.br fun K1 K2 hK1 hK2 => ?_); simp [*]; try ((refine Br.intro (fun hc => ?_) (fun hc => ?_)) <;> (try simp at hc)))
      | (with_reducible refine Cont.go (by assumption) _ ?_)
      | (with_reducible refine Cnt.go (by assumption) ?_))
    all_goals (unfold Hold; rfl)
end Go.Proofs.Ytiippmhlkcbjmaa.Ax
