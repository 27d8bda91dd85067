/- Contracts: binders called anew, by the reference. -/
import Derived.Test.YtaacfmakfkaddaaDoorExD
set_option linter.unusedVariables false
set_option linter.unusedSimpArgs false
namespace Go.Proofs.YtaacfmakfkaddaaDoor.Ax
open Go Go.Proofs

theorem cntL_len : ∀ l : List Ex, l.length ≤ cntL l
  | [] => Nat.zero_le _
  | a :: l => by rw [cntL, List.length_cons]; have := cntE_pos a; have := cntL_len l; omega
theorem smaller_kids {e : Ex} (hr0 : rightE e = 0) : Smaller e e.kids := ⟨fun j hj => ⟨right_mem hr0 (List.getElem_mem hj), cnt_mem (List.getElem_mem hj)⟩, by
  have h1 := (right_zero hr0).1
  rw [nodesN_eq] at h1
  have h3 := cntE_eq e
  have h4 := cntL_len e.kids
  omega⟩
set_option maxHeartbeats 4000000 in
theorem ok_prepared : PureOk Tryd.prog 44 gRn := by
  refine recn3 fun e ih x o r hr => ?_
  split at hr
  · rename_i hm
    obtain ⟨hr0, hx0, hu0⟩ := hm
    cases hr
    obtain ⟨o, rfl, ho⟩ := u64_of hu0
    simp only [Int.toNat_natCast] at *
    obtain ⟨x1, x2, x3⟩ := right_zero hr0
    have ha : allX e = true := x3
    have hsme := small_all ha
    rw [nodesN_eq] at x1
    have hE := (((((((((((EnvOk.nil (P := Tryd.prog) (eq := fun _ => false) (own := fun _ => false) (mem := fun _ => false) EqOk.none).addf ok_rQuant).addf ok_rIsFree).addf ok_Copy).addf ok_rHas).addf ok_rVarsS).addf ok_rUnion).addf ok_rWith).addf ok_rLeast).addf ok_rWithin).addf ih)
    refine ⟨⟨Tryd.f44, Tryd.func44, by decide, rfl⟩, pure_of_T Tryd.func44 rfl (by simp [Tryd.ntmps44]) fun q => ?_⟩
    have hpe := rnE_eq (x := x) (o := o) ha
    have hsk' : Hold (Smaller e e.kids) := smaller_kids hr0
    refine T.sq fun K hK => ?_
    obtain ⟨hgo⟩ := hK
    repeat' (first | (with_reducible refine T.sq fun K hK => ?_) | ((first | ((with_reducible refine T.reg hE ?hd ?_); (case hd => kernel_rfl)) | ((with_reducible refine T.any hE mixed ?hd ?hok ?_); (case hd => kernel_rfl); (case hok => kernel_rfl))); simp [*]; (repeat' (split; all_goals (rename_i hc; try simp [*])))) | ((with_reducible refine T.ret ?_); refine fin_pure ?_; simp [*]; try (change Hold _)) | (with_reducible refine T.block ?_) | ((with_reducible refine T.skip ?_); simp [*]) | ((with_reducible refine T.exit ?_); simp [*]) | ((with_reducible refine T.br fun K1 K2 hK1 hK2 => ?_); simp [*]; try ((refine Br.intro (fun hc => ?_) (fun hc => ?_)) <;> (try simp at hc))) | (with_reducible refine Cont.go (by assumption) _ ?_) | (with_reducible refine Cnt.go (by assumption) ?_))
    refine hgo _ ?_
    clear hgo
    refine T.sq fun K hK => ?_
    obtain ⟨hgo⟩ := hK
    repeat' (first | (with_reducible refine T.sq fun K hK => ?_) | ((first | ((with_reducible refine T.reg hE ?hd ?_); (case hd => kernel_rfl)) | ((with_reducible refine T.any hE mixed ?hd ?hok ?_); (case hd => kernel_rfl); (case hok => kernel_rfl))); simp [*]; (repeat' (split; all_goals (rename_i hc; try simp [*])))) | ((with_reducible refine T.ret ?_); refine fin_pure ?_; simp [*]; try (change Hold _)) | (with_reducible refine T.block ?_) | ((with_reducible refine T.skip ?_); simp [*]) | ((with_reducible refine T.exit ?_); simp [*]) | ((with_reducible refine T.br fun K1 K2 hK1 hK2 => ?_); simp [*]; try ((refine Br.intro (fun hc => ?_) (fun hc => ?_)) <;> (try simp at hc))) | (with_reducible refine Cont.go (by assumption) _ ?_) | (with_reducible refine Cnt.go (by assumption) ?_))
    refine hgo _ ?_
    clear hgo
    refine T.sq fun K hK => ?_
    obtain ⟨hgo⟩ := hK
    repeat' (first | (with_reducible refine T.sq fun K hK => ?_) | ((first | ((with_reducible refine T.reg hE ?hd ?_); (case hd => kernel_rfl)) | ((with_reducible refine T.any hE mixed ?hd ?hok ?_); (case hd => kernel_rfl); (case hok => kernel_rfl))); simp [*]; (repeat' (split; all_goals (rename_i hc; try simp [*])))) | ((with_reducible refine T.ret ?_); refine fin_pure ?_; simp [*]; try (change Hold _)) | (with_reducible refine T.block ?_) | ((with_reducible refine T.skip ?_); simp [*]) | ((with_reducible refine T.exit ?_); simp [*]) | ((with_reducible refine T.br fun K1 K2 hK1 hK2 => ?_); simp [*]; try ((refine Br.intro (fun hc => ?_) (fun hc => ?_)) <;> (try simp at hc))) | (with_reducible refine Cont.go (by assumption) _ ?_) | (with_reducible refine Cnt.go (by assumption) ?_))
    refine hgo _ ?_
    clear hgo
    refine T.sq fun K0 hK0 => ?_
    suffices j0 : ∀ (I : Int) (L : List Ex) (tk : Tk) (σ : St), (Hold (rnE x o e = pcK (rnE x o) e.k I L) ∧ Hold (Smaller e L) ∧ σ.get 1 = .int .i64 x ∧ σ.get 2 = .int .u64 (o : Nat) ∧ σ.get 3 = .ptr (0 :: 5 :: q) 0 ∧ σ.get 6 = .ptr (0 :: 8 :: q) 0 ∧ σ.get 9 = .int .i64 I ∧ σ.get 8 = .sl (encL L) tk ∧ σ.M (0 :: 5 :: q) = some (.cells (encC e)) ∧ (∃ c0 c1 c2, σ.M (0 :: 8 :: q) = some (.cells [c0, c1, c2])) ∧ σ.cnt 14 = 0) → K0 σ by
      clear hK0
      by_cases cq : isQ e = true
      · rw [if_pos cq] at hpe
        have hk0 := q_kids ha cq
        have hkm : kid0 e ∈ e.kids := by rw [hk0]; simp [kid0]
        have hkr := right_mem hr0 hkm
        have c1' : e.k = 7 ∨ e.k = 10 := by simpa [isQ] using cq
        have va := shaped_var ha (.inr c1')
        have v1 : 0 ≤ e.i := va.1
        have v2 : e.i ≤ 63 := va.2
        obtain ⟨y, hy⟩ : ∃ y, kid0 e = y := ⟨_, rfl⟩
        have hkl : e.kids.length = 1 := by rw [hk0]; rfl
        have hk1 : 0 < e.kids.length := by omega
        have hk2 : e.kids[0]'hk1 = y := by rw [← hy]; simp only [hk0]; rfl
        have hyr : rightE y = 0 := hy ▸ hkr
        have hya : allX y = true := (right_zero hyr).2.2
        have hyx : okX y := hya
        have f1 := u64_nat (frE_lt hya)
        have f2 := u64_nat (vaE_lt hya)
        rw [hy] at hpe
        clear hk0 hkm hkl
        by_cases c1 : e.i = x ∨ hasB (frE y) x = false
        · rw [if_pos c1] at hpe
          have hn : Hold (rnE x o e = some e) := hpe
          clear hpe
          by_cases c2 : e.i = x
          · have e1 : Ex.mk e.k x e.kids = e := by rw [← c2]; cases e; rfl
            have hn2 : Hold (rnE x o e = some (Ex.mk e.k x e.kids)) := by rw [e1]; exact hn
            clear hn
            repeat' (first | (with_reducible refine T.sq fun K hK => ?_) | ((first | ((with_reducible refine T.reg hE ?hd ?_); (case hd => kernel_rfl)) | ((with_reducible refine T.any hE mixed ?hd ?hok ?_); (case hd => kernel_rfl); (case hok => kernel_rfl))); simp [*]; (repeat' (split; all_goals (rename_i hc; try simp [*])))) | ((with_reducible refine T.ret ?_); refine fin_pure ?_; simp [*]; try (change Hold _)) | (with_reducible refine T.block ?_) | ((with_reducible refine T.skip ?_); simp [*]) | ((with_reducible refine T.exit ?_); simp [*]) | ((with_reducible refine T.br fun K1 K2 hK1 hK2 => ?_); simp [*]; try ((refine Br.intro (fun hc => ?_) (fun hc => ?_)) <;> (try simp at hc))) | (with_reducible refine Cont.go (by assumption) _ ?_) | (with_reducible refine Cnt.go (by assumption) ?_))
            all_goals (unfold Hold at *; rw [hn2]; simp [cnV, encC_eq])
          · have c3 : hasB (frE y) x = false := by rcases c1 with h | h; exact absurd h c2; exact h
            repeat' (first | (with_reducible refine T.sq fun K hK => ?_) | ((first | ((with_reducible refine T.reg hE ?hd ?_); (case hd => kernel_rfl)) | ((with_reducible refine T.any hE mixed ?hd ?hok ?_); (case hd => kernel_rfl); (case hok => kernel_rfl))); simp [*]; (repeat' (split; all_goals (rename_i hc; try simp [*])))) | ((with_reducible refine T.ret ?_); refine fin_pure ?_; simp [*]; try (change Hold _)) | (with_reducible refine T.block ?_) | ((with_reducible refine T.skip ?_); simp [*]) | ((with_reducible refine T.exit ?_); simp [*]) | ((with_reducible refine T.br fun K1 K2 hK1 hK2 => ?_); simp [*]; try ((refine Br.intro (fun hc => ?_) (fun hc => ?_)) <;> (try simp at hc))) | (with_reducible refine Cont.go (by assumption) _ ?_) | (with_reducible refine Cnt.go (by assumption) ?_))
            all_goals (unfold Hold at *; rw [hn]; simp [cnV, encC_eq])
        · rw [if_neg c1] at hpe
          have c2 : ¬ e.i = x := fun h => c1 (.inl h)
          have c3 : hasB (frE y) x = true := by
            cases h : hasB (frE y) x with
            | false => exact absurd (.inr h) c1
            | true => rfl
          clear c1
          by_cases c4 : hasB o e.i = true
          · rw [if_pos c4] at hpe
            have hU : rnU x o e = withN (o ||| vaE y) x := by unfold rnU; rw [hy, Nat.or_comm]
            rw [hU] at hpe
            have hvl := vaE_lt hya
            have hol := or_lt ho hvl
            have f3 := u64_nat hol
            have f4 := u64_nat (withN_lt (n := x) hol)
            have hzr := least_range (withN (o ||| vaE y) x)
            obtain ⟨z, hz⟩ : ∃ z, leastN (withN (o ||| vaE y) x) = z := ⟨_, rfl⟩
            rw [hz] at hzr hpe
            by_cases c5 : z < 0
            · rw [if_pos c5] at hpe
              have hn : Hold (rnE x o e = none) := hpe
              clear hpe
              repeat' (first | (with_reducible refine T.sq fun K hK => ?_) | ((first | ((with_reducible refine T.reg hE ?hd ?_); (case hd => kernel_rfl)) | ((with_reducible refine T.any hE mixed ?hd ?hok ?_); (case hd => kernel_rfl); (case hok => kernel_rfl))); simp [*]; (repeat' (split; all_goals (rename_i hc; try simp [*])))) | ((with_reducible refine T.ret ?_); refine fin_pure ?_; simp [*]; try (change Hold _)) | (with_reducible refine T.block ?_) | ((with_reducible refine T.skip ?_); simp [*]) | ((with_reducible refine T.exit ?_); simp [*]) | ((with_reducible refine T.br fun K1 K2 hK1 hK2 => ?_); simp [*]; try ((refine Br.intro (fun hc => ?_) (fun hc => ?_)) <;> (try simp at hc))) | (with_reducible refine Cont.go (by assumption) _ ?_) | (with_reducible refine Cnt.go (by assumption) ?_))
              all_goals (unfold Hold at *; rw [hn]; rfl)
            · rw [if_neg c5] at hpe
              have hn : Hold (rnE x o e = pcK (rnE x o) e.k z [rnK x o e]) := hpe
              clear hpe
              have c6 : 0 ≤ z := by omega
              have hz2 : 0 ≤ z ∧ z ≤ 63 := ⟨c6, hzr.2⟩
              obtain ⟨R, hR⟩ : ∃ R, psF (sgF e.i (vrX z)) y = R := ⟨_, rfl⟩
              have hRn : rnK x o e = R := by unfold rnK; rw [hU, hz, hy]; exact hR
              have hzz : ¬ leastN (rnU x o e) < 0 := by rw [hU, hz]; exact c5
              have g1 := rnK_right hr0 cq hzz
              have g2 := (rnK_small ha cq hzz).1
              rw [hRn] at g1 g2
              have hsm : Hold (Smaller e [R]) := ⟨fun j hj => by
                obtain rfl : j = 0 := by simp at hj; omega
                exact ⟨g1, g2⟩, by simp⟩
              have hwi : wiV R 1000 = .agg [.bool true, .int .i64 R.k, .int .i64 R.i, .sl (encL R.kids) .no, .int .i64 (cntE R : Nat)] := wi_good (by omega)
              have hy3 := (right_zero hyr).1
              rw [nodesN_eq] at hy3
              have hokw : okWi y (Ex.mk 1 z []) 1000 := ⟨hya, (vr_term hz2).1, hy3, by rw [cntE, cntL]; omega, by omega, by omega⟩
              have hR' : psF (sgF e.i (Ex.mk 1 z [])) y = R := hR
              rw [hRn] at hn
              clear hR hRn hzz hzr
              repeat' (first | (with_reducible refine T.sq fun K hK => ?_) | ((first | ((with_reducible refine T.reg hE ?hd ?_); (case hd => kernel_rfl)) | ((with_reducible refine T.any hE mixed ?hd ?hok ?_); (case hd => kernel_rfl); (case hok => kernel_rfl))); simp [*]; (repeat' (split; all_goals (rename_i hc; try simp [*])))) | ((with_reducible refine T.ret ?_); refine fin_pure ?_; simp [*]; try (change Hold _)) | (with_reducible refine T.block ?_) | ((with_reducible refine T.skip ?_); simp [*]) | ((with_reducible refine T.exit ?_); simp [*]) | ((with_reducible refine T.br fun K1 K2 hK1 hK2 => ?_); simp [*]; try ((refine Br.intro (fun hc => ?_) (fun hc => ?_)) <;> (try simp at hc))) | (with_reducible refine Cont.go (by assumption) _ ?_) | (with_reducible refine Cnt.go (by assumption) ?_))
              all_goals (refine j0 z [R] .ex _ ⟨hn, hsm, ?_, ?_, ?_, ?_, ?_, ?_, ?_, ?_, ?_⟩ <;> simp [*, encC_eq])
          · rw [if_neg c4] at hpe
            rw [Bool.not_eq_true] at c4
            have hn : Hold (rnE x o e = pcK (rnE x o) e.k e.i e.kids) := hpe
            clear hpe
            repeat' (first | (with_reducible refine T.sq fun K hK => ?_) | ((first | ((with_reducible refine T.reg hE ?hd ?_); (case hd => kernel_rfl)) | ((with_reducible refine T.any hE mixed ?hd ?hok ?_); (case hd => kernel_rfl); (case hok => kernel_rfl))); simp [*]; (repeat' (split; all_goals (rename_i hc; try simp [*])))) | ((with_reducible refine T.ret ?_); refine fin_pure ?_; simp [*]; try (change Hold _)) | (with_reducible refine T.block ?_) | ((with_reducible refine T.skip ?_); simp [*]) | ((with_reducible refine T.exit ?_); simp [*]) | ((with_reducible refine T.br fun K1 K2 hK1 hK2 => ?_); simp [*]; try ((refine Br.intro (fun hc => ?_) (fun hc => ?_)) <;> (try simp at hc))) | (with_reducible refine Cont.go (by assumption) _ ?_) | (with_reducible refine Cnt.go (by assumption) ?_))
            all_goals (refine j0 _ e.kids .no _ ⟨hn, hsk', ?_, ?_, ?_, ?_, ?_, ?_, ?_, ?_, ?_⟩ <;> simp [*, encC_eq])
      · rw [if_neg cq] at hpe
        rw [Bool.not_eq_true] at cq
        have hn : Hold (rnE x o e = pcK (rnE x o) e.k e.i e.kids) := hpe
        clear hpe
        repeat' (first | (with_reducible refine T.sq fun K hK => ?_) | ((first | ((with_reducible refine T.reg hE ?hd ?_); (case hd => kernel_rfl)) | ((with_reducible refine T.any hE mixed ?hd ?hok ?_); (case hd => kernel_rfl); (case hok => kernel_rfl))); simp [*]; (repeat' (split; all_goals (rename_i hc; try simp [*])))) | ((with_reducible refine T.ret ?_); refine fin_pure ?_; simp [*]; try (change Hold _)) | (with_reducible refine T.block ?_) | ((with_reducible refine T.skip ?_); simp [*]) | ((with_reducible refine T.exit ?_); simp [*]) | ((with_reducible refine T.br fun K1 K2 hK1 hK2 => ?_); simp [*]; try ((refine Br.intro (fun hc => ?_) (fun hc => ?_)) <;> (try simp at hc))) | (with_reducible refine Cont.go (by assumption) _ ?_) | (with_reducible refine Cnt.go (by assumption) ?_))
        all_goals (refine j0 _ e.kids .no _ ⟨hn, hsk', ?_, ?_, ?_, ?_, ?_, ?_, ?_, ?_, ?_⟩ <;> simp [*, encC_eq])
    rintro I L tk σ ⟨hn, hL0, b1, b2, b3, b6, b9, b8, n5, ⟨c0, c1, c2, n8⟩, b14⟩
    refine hK0.go σ ?_
    clear hK0 hpe hsk'
    rw [encC_eq] at n5
    obtain ⟨hL1, hL2⟩ := hL0
    have hokp : ∀ (j : Nat) (hj : j < L.length), okRn L[j] x (o : Nat) := fun j hj => ⟨(hL1 j hj).1, hx0, hu0⟩
    have hlt : ∀ (j : Nat) (hj : j < L.length), cntE L[j] < cntE e := fun j hj => (hL1 j hj).2
    repeat' (first | (with_reducible refine T.sq fun K hK => ?_) | ((first | ((with_reducible refine T.reg hE ?hd ?_); (case hd => kernel_rfl)) | ((with_reducible refine T.any hE mixed ?hd ?hok ?_); (case hd => kernel_rfl); (case hok => kernel_rfl))); simp [*]; (repeat' (split; all_goals (rename_i hc; try simp [*])))) | ((with_reducible refine T.ret ?_); refine fin_pure ?_; simp [*]; try (change Hold _)) | (with_reducible refine T.block ?_) | ((with_reducible refine T.skip ?_); simp [*]) | ((with_reducible refine T.exit ?_); simp [*]) | ((with_reducible refine T.br fun K1 K2 hK1 hK2 => ?_); simp [*]; try ((refine Br.intro (fun hc => ?_) (fun hc => ?_)) <;> (try simp at hc))) | (with_reducible refine Cont.go (by assumption) _ ?_) | (with_reducible refine Cnt.go (by assumption) ?_))
    refine T.len (t := 73) (els := encL L) (tk := tk) (by simp [*]) fun hlen => ?_
    rw [encL_length] at hlen
    refine T.loop (fun n σ => ∃ (j : Nat) (w : V) (Y : List Ex), n = L.length - j ∧ σ.get 73 = .sl (encL L) tk ∧ σ.get 74 = .int .i64 L.length ∧ σ.get 75 = .int .i64 j ∧ j ≤ L.length ∧ σ.get 1 = .int .i64 x ∧ σ.get 2 = .int .u64 (o : Nat) ∧ σ.get 6 = .ptr (0 :: 8 :: q) 0 ∧ σ.get 12 = .ptr (0 :: 14 :: q) 0 ∧ (∃ c0 c1 c2, σ.M (0 :: 8 :: q) = some (.cells [c0, c1, c2])) ∧ σ.M (0 :: 14 :: q) = some (.cells [.int .i64 e.k, .int .i64 I, w]) ∧ Hold (optL (rnE x o) (L.take j) = some Y ∧ Y.length = j) ∧ Hold ((Y = [] ∧ w = .nils) ∨ (Y ≠ [] ∧ ∃ id, w = .sl (encL Y) (.own id 3) ∧ σ.K id = true))) L.length ⟨0, .nils, [], by simp [*], by simp [*], by simp [*], by simp [*], by omega, by simp [*], by simp [*], by simp [*], by simp [*], ⟨c0, c1, c2, by simp [*]⟩, by simp [*], ⟨by rw [List.take_zero]; rfl, rfl⟩, .inl ⟨rfl, rfl⟩⟩ ?_
    clear b1 b2 b3 b6 b8 b9 n5 n8 b14 c0 c1 c2 hL1
    rintro n σ ⟨j, w, Y, rfl, g1, g2, g3, g4, b1, b2, b6, b8, ⟨c0, c1, c2, n8⟩, n10, g8, g9⟩
    obtain ⟨hL, hLj⟩ := g8
    by_cases hj : j < L.length
    · have hw := wrap_succ hlen hj
      have hs := hlt j hj
      have hok := hokp j hj
      have u1 : (j + 1) * 40 ≤ 140737488355328 := by omega
      rcases optL_head hj hL with ⟨y, hy, hY2⟩ | ⟨hy, hno⟩
      · have hcv : cnV (rnE x o L[j]) = .tup [enc y, .int .i64 0] := by rw [hy]; rfl
        have hL2' : Hold (optL (rnE x o) (L.take (j + 1)) = some (Y ++ [y])) := hY2
        clear hy hL hY2 hokp hlt
        rcases g9 with ⟨rfl, rfl⟩ | ⟨hj0, id, rfl, hK⟩
        · have hj1 : j = 0 := by rw [← hLj]; rfl
          subst hj1
          have hw1 : IntKind.i64.wrap 1 = 1 := wrap64 (by omega) (by omega)
          repeat' (first | (with_reducible refine T.sq fun K hK => ?_) | ((first | ((with_reducible refine T.reg hE ?hd ?_); (case hd => kernel_rfl)) | ((with_reducible refine T.any hE mixed ?hd ?hok ?_); (case hd => kernel_rfl); (case hok => kernel_rfl))); simp [*]; (repeat' (split; all_goals (rename_i hc; try simp [*])))) | ((with_reducible refine T.ret ?_); refine fin_pure ?_; simp [*]; try (change Hold _)) | (with_reducible refine T.block ?_) | ((with_reducible refine T.skip ?_); simp [*]) | ((with_reducible refine T.exit ?_); simp [*]) | ((with_reducible refine T.br fun K1 K2 hK1 hK2 => ?_); simp [*]; try ((refine Br.intro (fun hc => ?_) (fun hc => ?_)) <;> (try simp at hc))) | (with_reducible refine Cont.go (by assumption) _ ?_) | (with_reducible refine Cnt.go (by assumption) ?_))
          exact ⟨_, by omega, 1, rfl, rfl, by omega, [y], ⟨hL2', rfl⟩, by simp, _, ⟨by simp, rfl⟩, .inl rfl⟩
        · have hl3 : (∀ el : List V, el ∈ encL Y → el.length = 3) = True := eq_true (encL_len3 Y)
          have hll : (encL Y).length = j := by rw [encL_length, hLj]
          have c4 : Hold (encL (Y ++ [y]) = encL Y ++ [[.int .i64 y.k, .int .i64 y.i, .sl (encL y.kids) .no]]) := by unfold Hold; rw [encL_append]; simp
          repeat' (first | (with_reducible refine T.sq fun K hK => ?_) | ((first | ((with_reducible refine T.reg hE ?hd ?_); (case hd => kernel_rfl)) | ((with_reducible refine T.any hE mixed ?hd ?hok ?_); (case hd => kernel_rfl); (case hok => kernel_rfl))); simp [*]; (repeat' (split; all_goals (rename_i hc; try simp [*])))) | ((with_reducible refine T.ret ?_); refine fin_pure ?_; simp [*]; try (change Hold _)) | (with_reducible refine T.block ?_) | ((with_reducible refine T.skip ?_); simp [*]) | ((with_reducible refine T.exit ?_); simp [*]) | ((with_reducible refine T.br fun K1 K2 hK1 hK2 => ?_); simp [*]; try ((refine Br.intro (fun hc => ?_) (fun hc => ?_)) <;> (try simp at hc))) | (with_reducible refine Cont.go (by assumption) _ ?_) | (with_reducible refine Cnt.go (by assumption) ?_))
          exact ⟨_, by omega, j + 1, rfl, by omega, by omega, Y ++ [y], ⟨hL2', by simp [hLj]⟩, by simp, _, ⟨c4.symm, rfl⟩, .inl rfl⟩
      · have hcv : cnV (rnE x o L[j]) = .tup [enc ex0, .int .i64 51] := by rw [hy]; rfl
        have hn2 : Hold (rnE x o e = none) := by unfold Hold at *; rw [hn, pcK, hno]; rfl
        clear hy hno hL hokp g9 hn hlt
        repeat' (first | (with_reducible refine T.sq fun K hK => ?_) | ((first | ((with_reducible refine T.reg hE ?hd ?_); (case hd => kernel_rfl)) | ((with_reducible refine T.any hE mixed ?hd ?hok ?_); (case hd => kernel_rfl); (case hok => kernel_rfl))); simp [*]; (repeat' (split; all_goals (rename_i hc; try simp [*])))) | ((with_reducible refine T.ret ?_); refine fin_pure ?_; simp [*]; try (change Hold _)) | (with_reducible refine T.block ?_) | ((with_reducible refine T.skip ?_); simp [*]) | ((with_reducible refine T.exit ?_); simp [*]) | ((with_reducible refine T.br fun K1 K2 hK1 hK2 => ?_); simp [*]; try ((refine Br.intro (fun hc => ?_) (fun hc => ?_)) <;> (try simp at hc))) | (with_reducible refine Cont.go (by assumption) _ ?_) | (with_reducible refine Cnt.go (by assumption) ?_))
        all_goals (unfold Hold at *; rw [hn2]; rfl)
    · have w8 : j = L.length := by omega
      have hn2 : Hold (rnE x o e = some (.mk e.k I Y)) := by unfold Hold at *; rw [w8, List.take_length] at hL; rw [hn, pcK, hL]; rfl
      clear hL hokp hn hlt
      rcases g9 with ⟨rfl, rfl⟩ | ⟨hj0, id, rfl, hK⟩
      · repeat' (first | (with_reducible refine T.sq fun K hK => ?_) | ((first | ((with_reducible refine T.reg hE ?hd ?_); (case hd => kernel_rfl)) | ((with_reducible refine T.any hE mixed ?hd ?hok ?_); (case hd => kernel_rfl); (case hok => kernel_rfl))); simp [*]; (repeat' (split; all_goals (rename_i hc; try simp [*])))) | ((with_reducible refine T.ret ?_); refine fin_pure ?_; simp [*]; try (change Hold _)) | (with_reducible refine T.block ?_) | ((with_reducible refine T.skip ?_); simp [*]) | ((with_reducible refine T.exit ?_); simp [*]) | ((with_reducible refine T.br fun K1 K2 hK1 hK2 => ?_); simp [*]; try ((refine Br.intro (fun hc => ?_) (fun hc => ?_)) <;> (try simp at hc))) | (with_reducible refine Cont.go (by assumption) _ ?_) | (with_reducible refine Cnt.go (by assumption) ?_))
        all_goals (unfold Hold at *; rw [hn2]; simp [cnV])
      · repeat' (first | (with_reducible refine T.sq fun K hK => ?_) | ((first | ((with_reducible refine T.reg hE ?hd ?_); (case hd => kernel_rfl)) | ((with_reducible refine T.any hE mixed ?hd ?hok ?_); (case hd => kernel_rfl); (case hok => kernel_rfl))); simp [*]; (repeat' (split; all_goals (rename_i hc; try simp [*])))) | ((with_reducible refine T.ret ?_); refine fin_pure ?_; simp [*]; try (change Hold _)) | (with_reducible refine T.block ?_) | ((with_reducible refine T.skip ?_); simp [*]) | ((with_reducible refine T.exit ?_); simp [*]) | ((with_reducible refine T.br fun K1 K2 hK1 hK2 => ?_); simp [*]; try ((refine Br.intro (fun hc => ?_) (fun hc => ?_)) <;> (try simp at hc))) | (with_reducible refine Cont.go (by assumption) _ ?_) | (with_reducible refine Cnt.go (by assumption) ?_))
        all_goals (unfold Hold at *; rw [hn2]; simp [cnV])
  · cases hr
end Go.Proofs.YtaacfmakfkaddaaDoor.Ax
