/- Contracts: values of terms in a world, by the program. -/
import Derived.Test.YtaacfmakfkaddaaCxQ
set_option linter.unusedVariables false
set_option linter.unusedSimpArgs false
namespace Go.Proofs.Ytaacfmakfkaddaa.Ax
open Go Go.Proofs

/-- What a looker holds: a world, 64 values, the work. -/
def lkN (w : Wo) (env : List Int) (n : Nat) : List V := .int .i64 w.size :: .sl (rTb.encL w.funcs) .no :: .sl (rTb.encL w.preds) .no :: encA (env ++ [(n : Int)])
def wkN (cs : List V) : Nat := match cs[67]? with
  | some (V.int _ n) => n.toNat
  | _ => 0
theorem wkN_eq {w : Wo} {env : List Int} (h : env.length = 64) (n : Nat) : wkN (lkN w env n) = n := by
  unfold wkN lkN
  simp [encA, h]
theorem lk_work {env : List Int} (h : env.length = 64) (n : Int) : (encA (env ++ [n]))[64]? = some (.int .i64 n) := by
  simp [encA, h]
theorem lk_env {env : List Int} (n : Int) {j : Nat} (hj : j < env.length) : (encA (env ++ [n]))[j]? = some (.int .i64 env[j]) := by
  simp [encA, List.getElem?_append_left, hj]
theorem lk_set {env : List Int} (h : env.length = 64) (n m : Int) : (encA (env ++ [n])).take 64 ++ [V.int .i64 m] = encA (env ++ [m]) := by
  unfold encA
  rw [List.map_append, List.map_append, List.take_append_of_le_length (by simp [h]), List.take_of_length_le (by simp [h])]; rfl
def okLo (w : Wo) (env : List Int) (ri i : Path) (cs : List V) : Prop := i = ri ∧ env.length = 64 ∧ wkN cs ≤ 50000 ∧ cs = lkN w env (wkN cs)
noncomputable instance (w : Wo) (env : List Int) (ri i : Path) (cs : List V) : Decidable (okLo w env ri i cs) := Classical.propDecidable _
@[simp] noncomputable def mCome (w : Wo) (env : List Int) (ri : Path) : Path → List V → Mem → Toks → Option (V × Mem × Toks) := fun _ args M K => match args with
  | [.ptr i 0] => match M ri with
    | some (.cells cs) => if okLo w env ri i cs then some (.bool (decide (wkN cs + 1 ≤ 50000)), upd M ri (some (.cells (lkN w env (wkN cs + 1)))), K) else none
    | _ => none
  | _ => none
set_option maxHeartbeats 1000000 in
theorem ok_come {w : Wo} {env : List Int} {ri : Path} : MemOk Try.prog 23 (mCome w env ri) := by
  intro q args M K0 z M' K' h
  simp only [mCome] at h
  split at h
  · rename_i i
    split at h
    · rename_i cs hM
      split at h
      · rename_i hok
        obtain ⟨rfl, h64, hn, hcs⟩ := hok
        generalize wkN cs = n at *
        subst hcs
        simp only [Option.some.injEq, Prod.mk.injEq] at h
        obtain ⟨rfl, rfl, rfl⟩ := h
        refine ⟨⟨Try.f23, Try.func23, by decide, rfl⟩, fun id hid hn => ?_, ?_⟩
        · have : id ≠ i := fun e => by subst e; rw [hn] at hM; cases hM
          rw [upd_ne _ _ this]; exact hn
        have hE := (EnvOk.nil (P := Try.prog) (eq := fun _ => false) (own := fun _ => false) (mem := fun _ => false) EqOk.none)
        refine ctr_of_T Try.func23 rfl (by simp [Try.ntmps23]) fun hMq hKq => ?_
        have hq := not_own hMq (id := i) (by rw [hM]; simp)
        have hw : IntKind.i64.wrap ((n : Int) + 1) = ((n + 1 : Nat) : Int) := by rw [wrap64 (by omega) (by omega)]; rfl
        have hg := lk_work h64 (n : Int)
        have hg2 := lk_work h64 ((n + 1 : Nat) : Int)
        have hs := lk_set h64 (n : Int) ((n + 1 : Nat) : Int)
        have hl : (encA (env ++ [(n : Int)])).length = 65 := by simp [h64]
        have hl2 : env.length + 1 = 65 := by omega
        have hx : lkN w env n = .int .i64 w.size :: .sl (rTb.encL w.funcs) .no :: .sl (rTb.encL w.preds) .no :: encA (env ++ [(n : Int)]) := rfl
        rw [hx] at hM
        have hx2 : lkN w env (n + 1) = .int .i64 w.size :: .sl (rTb.encL w.funcs) .no :: .sl (rTb.encL w.preds) .no :: encA (env ++ [((n + 1 : Nat) : Int)]) := rfl
        rw [hx2]
        have hd : List.drop 65 (encA (env ++ [(n : Int)])) = [] := List.drop_eq_nil_of_le (by simp [h64])
        by_cases c : n + 1 ≤ 50000
        · have ci : ((n + 1 : Nat) : Int) ≤ 50000 := by omega
          clear hx hx2
          generalize ((n + 1 : Nat) : Int) = m at *
          repeat' (first | (with_reducible refine T.sq fun K hK => ?_) | ((first | ((with_reducible refine T.reg hE ?hd ?_); (case hd => kernel_rfl)) | ((with_reducible refine T.any hE mixed ?hd ?hok ?_); (case hd => kernel_rfl); (case hok => kernel_rfl))); simp [*]; (repeat' (split; all_goals (rename_i hc; try simp [*])))) | ((with_reducible refine T.ret ?_); (refine fin_mem (by simp [*]) ?_ ?_)) | (with_reducible refine T.block ?_) | ((with_reducible refine T.skip ?_); simp [*]) | ((with_reducible refine T.exit ?_); simp [*]) | ((with_reducible refine T.br fun K1 K2 hK1 hK2 => ?_); simp [*]; try ((refine Br.intro (fun hc => ?_) (fun hc => ?_)) <;> (try simp at hc))) | (with_reducible refine Cont.go (by assumption) _ ?_) | (with_reducible refine Cnt.go (by assumption) ?_))
          · intro id hid
            by_cases e1 : id = i
            · subst e1; simp
            · have hm : M id ≠ none := by rwa [upd_ne _ _ e1] at hid
              simp [e1, not_own hMq hm]
          · intro u hu; simpa using hu
        · have ci : ¬ ((n + 1 : Nat) : Int) ≤ 50000 := by omega
          clear hx hx2
          generalize ((n + 1 : Nat) : Int) = m at *
          repeat' (first | (with_reducible refine T.sq fun K hK => ?_) | ((first | ((with_reducible refine T.reg hE ?hd ?_); (case hd => kernel_rfl)) | ((with_reducible refine T.any hE mixed ?hd ?hok ?_); (case hd => kernel_rfl); (case hok => kernel_rfl))); simp [*]; (repeat' (split; all_goals (rename_i hc; try simp [*])))) | ((with_reducible refine T.ret ?_); (refine fin_mem (by simp [*]) ?_ ?_)) | (with_reducible refine T.block ?_) | ((with_reducible refine T.skip ?_); simp [*]) | ((with_reducible refine T.exit ?_); simp [*]) | ((with_reducible refine T.br fun K1 K2 hK1 hK2 => ?_); simp [*]; try ((refine Br.intro (fun hc => ?_) (fun hc => ?_)) <;> (try simp at hc))) | (with_reducible refine Cont.go (by assumption) _ ?_) | (with_reducible refine Cnt.go (by assumption) ?_))
          · intro id hid
            by_cases e1 : id = i
            · subst e1; simp
            · have hm : M id ≠ none := by rwa [upd_ne _ _ e1] at hid
              simp [e1, not_own hMq hm]
          · intro u hu; simpa using hu
      · cases h
    · cases h
  · cases h

/-! ### Terms -/
def zerosI (n : Nat) : List Int := List.replicate n 0
def tvE (w : Wo) (env : List Int) (n : Nat) (e : Ex) : Int := if n + cntE e ≤ 50000 then ofE w env e else if n + 1 ≤ 50000 then lookV w.funcs w.size e.i (zerosI e.kids.length) else 0
def tvL (w : Wo) (env : List Int) (n : Nat) (l : List Ex) : List Int := if n + cntL l ≤ 50000 then ofL w env l else zerosI l.length
theorem okLook_zero {w : Wo} (h : worldE w = 0) {n : Nat} (hn : n ≤ 4) : okLook w.funcs w.size (zerosI n) := by
  refine ⟨(world_of h).1, ⟨_, (world_of h).2.1⟩, by simp [zerosI, hn], fun a ha => ?_⟩
  have := (world_of h).1
  obtain rfl := (List.mem_replicate.1 ha).2
  omega
def okTm (w : Wo) (env : List Int) (ri i : Path) (N : Nat) (e : Ex) (cs : List V) : Prop := okLo w env ri i cs ∧ envR w env ∧ allX e = true ∧ SizeOf.sizeOf e < N
noncomputable instance (w : Wo) (env : List Int) (ri i : Path) (N : Nat) (e : Ex) (cs : List V) : Decidable (okTm w env ri i N e cs) := Classical.propDecidable _
@[simp] noncomputable def mTerm (w : Wo) (env : List Int) (ri : Path) (N : Nat) : Path → List V → Mem → Toks → Option (V × Mem × Toks) := fun _ args M K => match args with
  | [.ptr i 0, ev] => match dec ev, M ri with
    | some e, some (.cells cs) => if okTm w env ri i N e cs then some (.tup [.int .i64 (tvE w env (wkN cs) e), .bool (decide (wkN cs + cntE e ≤ 50000))], upd M ri (some (.cells (lkN w env (min (wkN cs + cntE e) 50001)))), K) else none
    | _, _ => none
  | _ => none
def okTs (w : Wo) (env : List Int) (ri i : Path) (N : Nat) (l : List Ex) (cs : List V) : Prop := okLo w env ri i cs ∧ envR w env ∧ l.length ≤ 4 ∧ ∀ e ∈ l, allX e = true ∧ SizeOf.sizeOf e < N
noncomputable instance (w : Wo) (env : List Int) (ri i : Path) (N : Nat) (l : List Ex) (cs : List V) : Decidable (okTs w env ri i N l cs) := Classical.propDecidable _
@[simp] noncomputable def mTerms (w : Wo) (env : List Int) (ri : Path) (N : Nat) : Path → List V → Mem → Toks → Option (V × Mem × Toks) := fun _ args M K => match args with
  | [.ptr i 0, .sl els .no] => match decL els, M ri with
    | some l, some (.cells cs) => if okTs w env ri i N l cs then some (.tup [.sl (encI .i64 (tvL w env (wkN cs) l)) .no, .bool (decide (wkN cs + cntL l ≤ 50000))], upd M ri (some (.cells (lkN w env (min (wkN cs + cntL l) 50001)))), K) else none
    | _, _ => none
  | _ => none
theorem okLo_mk {w : Wo} {env : List Int} {ri : Path} {n : Nat} (h : env.length = 64) (hn : n ≤ 50000) : okLo w env ri ri (lkN w env n) := ⟨rfl, h, by rw [wkN_eq h]; exact hn, by rw [wkN_eq h]⟩
set_option maxHeartbeats 2000000 in
theorem ok_terms {w : Wo} {env : List Int} {ri : Path} {N : Nat} (ih : MemOk Try.prog 44 (mTerm w env ri N)) : MemOk Try.prog 24 (mTerms w env ri N) := by
  intro q args M K0 z M' K' h
  simp only [mTerms] at h
  split at h
  · rename_i i els
    split at h
    · rename_i l cs hl hM
      split at h
      · rename_i hok
        obtain ⟨⟨rfl, h64, hn, hcs⟩, her, hl4, hall⟩ := hok
        obtain rfl := decL_inv _ _ hl
        generalize wkN cs = n at *
        subst hcs
        simp only [Option.some.injEq, Prod.mk.injEq] at h
        obtain ⟨rfl, rfl, rfl⟩ := h
        refine ⟨⟨Try.f24, Try.func24, by decide, rfl⟩, fun id hid hn => ?_, ?_⟩
        · have : id ≠ i := fun e => by subst e; rw [hn] at hM; cases hM
          rw [upd_ne _ _ this]; exact hn
        have hE := ((EnvOk.nil (P := Try.prog) (eq := fun _ => false) (own := fun _ => false) (mem := fun f => f == 44) EqOk.none).addm ih)
        refine ctr_of_T Try.func24 rfl (by simp [Try.ntmps24]) fun hMq hKq => ?_
        have hq := not_own hMq (id := i) (by rw [hM]; simp)
        have hq2 : ∀ c d, ¬ c :: d :: q = i := fun c d e => hq c d e.symm
        have hr0 : List.range 0 = [] := rfl
        have hr1 : List.range 1 = [0] := rfl
        have hwk := fun n => wkN_eq (w := w) h64 n
        have hll := ofL_len w env l
        repeat' (first | (with_reducible refine T.sq fun K hK => ?_) | ((first | ((with_reducible refine T.reg hE ?hd ?_); (case hd => kernel_rfl)) | ((with_reducible refine T.any hE mixed ?hd ?hok ?_); (case hd => kernel_rfl); (case hok => kernel_rfl))); simp [*]; (repeat' (split; all_goals (rename_i hc; try simp [*])))) | ((with_reducible refine T.ret ?_); (refine fin_mem (by simp [*]) ?_ ?_)) | (with_reducible refine T.block ?_) | ((with_reducible refine T.skip ?_); simp [*]) | ((with_reducible refine T.exit ?_); simp [*]) | ((with_reducible refine T.br fun K1 K2 hK1 hK2 => ?_); simp [*]; try ((refine Br.intro (fun hc => ?_) (fun hc => ?_)) <;> (try simp at hc))) | (with_reducible refine Cont.go (by assumption) _ ?_) | (with_reducible refine Cnt.go (by assumption) ?_))
        refine T.loop (fun m σ => ∃ (j k : Nat) (v : V), m = l.length - j ∧ σ.get 0 = .ptr i 0 ∧ σ.get 1 = .sl (encL l) .no ∧ σ.M i = some (.cells (lkN w env k)) ∧ σ.get 11 = .sl (encL l) .no ∧ σ.get 12 = .int .i64 l.length ∧ σ.get 13 = .int .i64 j ∧ σ.get 6 = v ∧ (∀ id, ¬ q <:+ id → id ≠ i → σ.M id = M id) ∧ (∀ t, K0 t = true → σ.K t = true) ∧ j ≤ l.length ∧ Hold (k = n + cntL (l.take j) ∧ k ≤ 50000) ∧ Hold ((j = 0 ∧ v = .nils) ∨ (0 < j ∧ ∃ c d, v = .sl (encI .i64 ((ofL w env l).take j)) (.own (c :: d :: q) 1) ∧ σ.K (c :: d :: q) = true))) l.length ⟨0, n, .nils, by simp, by simp [*], by simp [*], by simp [*], by simp [*], by simp [*], by simp [*], by simp [*], ?_, by simp, by omega, ⟨by simp [cntL], hn⟩, .inl ⟨rfl, rfl⟩⟩ ?_
        · intro id h1 h2
          have hn : ∀ c d, ¬ id = c :: d :: q := fun c d e => h1 (by rw [e]; exact own_suf q c d)
          simp [hn, h2]
        rintro m σ ⟨j, k, v, rfl, g0, g1, gM, g2, g3, g4, g5, gF, gK, g6, ⟨g7, g8⟩, g9⟩
        have hkq : ∀ t c d, K0 t = true → ¬ t = c :: d :: q := fun t c d ht e => by
          have := hKq t (by rw [e]; exact own_suf q c d)
          rw [this] at ht; cases ht
        clear hM
        by_cases hj : j < l.length
        · have hw : IntKind.i64.wrap ((j : Int) + 1) = (j : Int) + 1 := wrap64 (by omega) (by omega)
          have hw1 : IntKind.i64.wrap 1 = 1 := wrap64 (by omega) (by omega)
          obtain ⟨hx, hs⟩ := hall l[j] (List.getElem_mem hj)
          have hokt : okTm w env i i N l[j] (lkN w env k) := ⟨okLo_mk h64 g8, her, hx, hs⟩
          have hct := cntL_take l j hj
          have ht2 : Hold ((ofL w env l).take (j + 1) = (ofL w env l).take j ++ [ofE w env l[j]]) := ofL_take w env l j hj
          have hl2 : ((ofL w env l).take j).length = j := by rw [List.length_take, hll]; omega
          have hcap : (j + 1) * 8 ≤ 140737488355328 := by omega
          by_cases c : k + cntE l[j] ≤ 50000
          · have hv : tvE w env k l[j] = ofE w env l[j] := by unfold tvE; rw [if_pos c]
            have hmin : min (k + cntE l[j]) 50001 = k + cntE l[j] := by omega
            have hk : Hold (k + cntE l[j] = n + cntL (l.take (j + 1)) ∧ k + cntE l[j] ≤ 50000) := ⟨by omega, c⟩
            clear hall hct g7
            rcases g9 with ⟨rfl, rfl⟩ | ⟨g9, cc, d, rfl, g10⟩
            · repeat' (first | (with_reducible refine T.sq fun K hK => ?_) | ((first | ((with_reducible refine T.reg hE ?hd ?_); (case hd => kernel_rfl)) | ((with_reducible refine T.any hE mixed ?hd ?hok ?_); (case hd => kernel_rfl); (case hok => kernel_rfl))); simp [*]; (repeat' (split; all_goals (rename_i hc; try simp [*])))) | ((with_reducible refine T.ret ?_); (refine fin_mem (by simp [*]) ?_ ?_)) | (with_reducible refine T.block ?_) | ((with_reducible refine T.skip ?_); simp [*]) | ((with_reducible refine T.exit ?_); simp [*]) | ((with_reducible refine T.br fun K1 K2 hK1 hK2 => ?_); simp [*]; try ((refine Br.intro (fun hc => ?_) (fun hc => ?_)) <;> (try simp at hc))) | (with_reducible refine Cont.go (by assumption) _ ?_) | (with_reducible refine Cnt.go (by assumption) ?_))
              refine ⟨l.length - 1, by omega, 1, rfl, _, rfl, by omega, ?_, fun t ht => .inr (gK t ht), by omega, hk, by omega, _, _, ⟨?_, rfl, rfl⟩, .inl ⟨rfl, rfl⟩⟩
              · intro id h1 h2
                have hn : ∀ c d, ¬ id = c :: d :: q := fun c d e => h1 (by rw [e]; exact own_suf q c d)
                simp [hn, h2, gF id h1 h2]
              · unfold Hold at ht2; rw [ht2]; rfl
            · repeat' (first | (with_reducible refine T.sq fun K hK => ?_) | ((first | ((with_reducible refine T.reg hE ?hd ?_); (case hd => kernel_rfl)) | ((with_reducible refine T.any hE mixed ?hd ?hok ?_); (case hd => kernel_rfl); (case hok => kernel_rfl))); simp [*]; (repeat' (split; all_goals (rename_i hc; try simp [*])))) | ((with_reducible refine T.ret ?_); (refine fin_mem (by simp [*]) ?_ ?_)) | (with_reducible refine T.block ?_) | ((with_reducible refine T.skip ?_); simp [*]) | ((with_reducible refine T.exit ?_); simp [*]) | ((with_reducible refine T.br fun K1 K2 hK1 hK2 => ?_); simp [*]; try ((refine Br.intro (fun hc => ?_) (fun hc => ?_)) <;> (try simp at hc))) | (with_reducible refine Cont.go (by assumption) _ ?_) | (with_reducible refine Cnt.go (by assumption) ?_))
              refine ⟨l.length - (j + 1), by omega, j + 1, rfl, _, rfl, by omega, ?_, fun t ht => .inr ⟨hkq t _ _ ht, gK t ht⟩, by omega, hk, by omega, _, _, ⟨?_, rfl, rfl⟩, .inl ⟨rfl, rfl⟩⟩
              · intro id h1 h2
                have hn : ∀ c d, ¬ id = c :: d :: q := fun c d e => h1 (by rw [e]; exact own_suf q c d)
                simp [hn, h2, gF id h1 h2]
              · unfold Hold at ht2; rw [ht2]; exact encI_snoc _ _ _
          · have hv : Hold (tvL w env n l = zerosI l.length) := by
              unfold Hold tvL
              have := cntL_le l (j + 1)
              rw [if_neg (by omega)]
            have hcf : Hold (¬ n + cntL l ≤ 50000) := by
              have := cntL_le l (j + 1)
              unfold Hold; omega
            clear hall hct g7
            have u1 : (l.length : Int) ≤ 140737488355328 := by omega
            have u2 : (l.length : Int) * 8 ≤ 140737488355328 := by omega
            have hmin : min (k + cntE l[j]) 50001 = 50001 := by omega
            repeat' (first | (with_reducible refine T.sq fun K hK => ?_) | ((first | ((with_reducible refine T.reg hE ?hd ?_); (case hd => kernel_rfl)) | ((with_reducible refine T.any hE mixed ?hd ?hok ?_); (case hd => kernel_rfl); (case hok => kernel_rfl))); simp [*]; (repeat' (split; all_goals (rename_i hc; try simp [*])))) | (with_reducible refine T.block ?_) | ((with_reducible refine T.skip ?_); simp [*]) | ((with_reducible refine T.exit ?_); simp [*]) | ((with_reducible refine T.br fun K1 K2 hK1 hK2 => ?_); simp [*]; try ((refine Br.intro (fun hc => ?_) (fun hc => ?_)) <;> (try simp at hc))) | (with_reducible refine Cont.go (by assumption) _ ?_) | (with_reducible refine Cnt.go (by assumption) ?_))
            refine T.frzS 4 (by decide) ?_
            have u3 : l.length ≤ 9223372036854775807 := by omega
            have hcn : ¬ n + cntL l ≤ 50000 := hcf
            have hmn : min (n + cntL l) 50001 = 50001 := by omega
            have hev : encI .i64 (tvL w env n l) = List.replicate l.length [V.int .i64 0] := by
              unfold Hold at hv
              rw [hv]; simp [zerosI, encI]
            simp [Ax.frzS, u3]
            clear hv hcf
            repeat' (first | (with_reducible refine T.sq fun K hK => ?_) | ((first | ((with_reducible refine T.reg hE ?hd ?_); (case hd => kernel_rfl)) | ((with_reducible refine T.any hE mixed ?hd ?hok ?_); (case hd => kernel_rfl); (case hok => kernel_rfl))); simp [*]; (repeat' (split; all_goals (rename_i hc; try simp [*])))) | ((with_reducible refine T.ret ?_); (refine fin_mem (by simp [*]) ?_ ?_)) | (with_reducible refine T.block ?_) | ((with_reducible refine T.skip ?_); simp [*]) | ((with_reducible refine T.exit ?_); simp [*]) | ((with_reducible refine T.br fun K1 K2 hK1 hK2 => ?_); simp [*]; try ((refine Br.intro (fun hc => ?_) (fun hc => ?_)) <;> (try simp at hc))) | (with_reducible refine Cont.go (by assumption) _ ?_) | (with_reducible refine Cnt.go (by assumption) ?_))
            · intro id hid
              by_cases e1 : id = i
              · subst e1; simp [hmn, hq]
              · have hm : M id ≠ none := by rwa [upd_ne _ _ e1] at hid
                have hs : ¬ q <:+ id := fun h => hm (hMq id h)
                have hn : ∀ c d, ¬ id = c :: d :: q := fun c d e => hs (by rw [e]; exact own_suf q c d)
                simp [e1, hn, gF id hs e1]
            · intro u hu; simpa using gK u hu
        · have w8 : j = l.length := by omega
          subst w8
          rw [List.take_length] at g7
          have hv : tvL w env n l = ofL w env l := by unfold tvL; rw [if_pos (by omega)]
          have hcf : n + cntL l ≤ 50000 := by omega
          have hmin : min (n + cntL l) 50001 = k := by omega
          have htk : (ofL w env l).take l.length = ofL w env l := List.take_of_length_le (by rw [hll]; exact Nat.le_refl _)
          clear hall g7
          rcases g9 with ⟨h0, rfl⟩ | ⟨g9, cc, d, rfl, g10⟩
          · have h0 : ofL w env l = [] := List.eq_nil_of_length_eq_zero (by rw [hll]; omega)
            rw [h0] at hv
            clear hll htk
            repeat' (first | (with_reducible refine T.sq fun K hK => ?_) | ((first | ((with_reducible refine T.reg hE ?hd ?_); (case hd => kernel_rfl)) | ((with_reducible refine T.any hE mixed ?hd ?hok ?_); (case hd => kernel_rfl); (case hok => kernel_rfl))); simp [*]; (repeat' (split; all_goals (rename_i hc; try simp [*])))) | ((with_reducible refine T.ret ?_); (refine fin_mem (by simp [*]) ?_ ?_)) | (with_reducible refine T.block ?_) | ((with_reducible refine T.skip ?_); simp [*]) | ((with_reducible refine T.exit ?_); simp [*]) | ((with_reducible refine T.br fun K1 K2 hK1 hK2 => ?_); simp [*]; try ((refine Br.intro (fun hc => ?_) (fun hc => ?_)) <;> (try simp at hc))) | (with_reducible refine Cont.go (by assumption) _ ?_) | (with_reducible refine Cnt.go (by assumption) ?_))
            · intro id hid
              by_cases e1 : id = i
              · subst e1; simp [gM, hmin]
              · have hm : M id ≠ none := by rwa [upd_ne _ _ e1] at hid
                have hs : ¬ q <:+ id := fun h => hm (hMq id h)
                simp [e1, gF id hs e1]
            · intro u hu; simpa using gK u hu
          · repeat' (first | (with_reducible refine T.sq fun K hK => ?_) | ((first | ((with_reducible refine T.reg hE ?hd ?_); (case hd => kernel_rfl)) | ((with_reducible refine T.any hE mixed ?hd ?hok ?_); (case hd => kernel_rfl); (case hok => kernel_rfl))); simp [*]; (repeat' (split; all_goals (rename_i hc; try simp [*])))) | ((with_reducible refine T.ret ?_); (refine fin_mem (by simp [*]) ?_ ?_)) | (with_reducible refine T.block ?_) | ((with_reducible refine T.skip ?_); simp [*]) | ((with_reducible refine T.exit ?_); simp [*]) | ((with_reducible refine T.br fun K1 K2 hK1 hK2 => ?_); simp [*]; try ((refine Br.intro (fun hc => ?_) (fun hc => ?_)) <;> (try simp at hc))) | (with_reducible refine Cont.go (by assumption) _ ?_) | (with_reducible refine Cnt.go (by assumption) ?_))
            · intro id hid
              by_cases e1 : id = i
              · subst e1; simp [gM, hmin]
              · have hm : M id ≠ none := by rwa [upd_ne _ _ e1] at hid
                have hs : ¬ q <:+ id := fun h => hm (hMq id h)
                simp [e1, gF id hs e1]
            · intro u hu; simpa using gK u hu
      · cases h
    · cases h
  · cases h

set_option maxHeartbeats 2000000 in
theorem ok_term {w : Wo} {env : List Int} {ri : Path} : ∀ N, MemOk Try.prog 44 (mTerm w env ri N) := by
  intro N
  induction N with
  | zero =>
    intro q args M K0 z M' K' h
    simp only [mTerm] at h
    split at h
    · split at h
      · split at h
        · rename_i hok
          exact absurd hok.2.2.2 (by omega)
        · cases h
      · cases h
    · cases h
  | succ N ih0 =>
    have ih := ok_terms ih0
    clear ih0
    intro q args M K0 z M' K' h
    simp only [mTerm] at h
    split at h
    · rename_i i ev
      split at h
      · rename_i e cs he hM
        split at h
        · rename_i hok
          obtain ⟨⟨rfl, h64, hn, hcs⟩, her, hx, hs⟩ := hok
          obtain rfl := dec_inv he
          generalize wkN cs = n at *
          subst hcs
          simp only [Option.some.injEq, Prod.mk.injEq] at h
          obtain ⟨rfl, rfl, rfl⟩ := h
          refine ⟨⟨Try.f44, Try.func44, by decide, rfl⟩, fun id hid hn => ?_, ?_⟩
          · have : id ≠ i := fun e => by subst e; rw [hn] at hM; cases hM
            rw [upd_ne _ _ this]; exact hn
          have hco := ok_come (w := w) (env := env) (ri := i)
          have hE := ((((EnvOk.nil (P := Try.prog) (eq := fun _ => false) (own := fun _ => false) (mem := fun f => f == 23 || f == 24) EqOk.none).addf ok_mValue).addm hco).addm ih)
          refine ctr_of_T Try.func44 rfl (by simp [Try.ntmps44]) fun hMq hKq => ?_
          have hq := not_own hMq (id := i) (by rw [hM]; simp)
          have hq2 : ∀ c d, ¬ c :: d :: q = i := fun c d e => hq c d e.symm
          have hwk := fun n => wkN_eq (w := w) h64 n
          have hpos : 1 ≤ cntE e := by rw [cntE_eq]; omega
          have hlo : okLo w env i i (lkN w env n) := okLo_mk h64 hn
          have hfr : ∀ X : Option Box, ∀ id : Path, upd M i X id ≠ none → ¬ id = i → ∀ c d, ¬ id = c :: d :: q := fun X id hid e1 => by
            have hm : M id ≠ none := by rwa [upd_ne _ _ e1] at hid
            exact not_own hMq hm
          by_cases c0 : n + 1 ≤ 50000
          rotate_left
          · have hmin : min (n + cntE e) 50001 = n + 1 := by omega
            have hcn : ¬ n + cntE e ≤ 50000 := by omega
            have hv : tvE w env n e = 0 := by unfold tvE; rw [if_neg hcn, if_neg c0]
            clear hfr
            repeat' (first | (with_reducible refine T.sq fun K hK => ?_) | ((first | ((with_reducible refine T.reg hE ?hd ?_); (case hd => kernel_rfl)) | ((with_reducible refine T.any hE mixed ?hd ?hok ?_); (case hd => kernel_rfl); (case hok => kernel_rfl))); simp [*]; (repeat' (split; all_goals (rename_i hc; try simp [*])))) | ((with_reducible refine T.ret ?_); (refine fin_mem (by simp [*]) ?_ ?_)) | (with_reducible refine T.block ?_) | ((with_reducible refine T.skip ?_); simp [*]) | ((with_reducible refine T.exit ?_); simp [*]) | ((with_reducible refine T.br fun K1 K2 hK1 hK2 => ?_); simp [*]; try ((refine Br.intro (fun hc => ?_) (fun hc => ?_)) <;> (try simp at hc))) | (with_reducible refine Cont.go (by assumption) _ ?_) | (with_reducible refine Cnt.go (by assumption) ?_))
            · intro id hid
              by_cases e1 : id = i
              · subst e1; simp [hmin, hq]
              · have hm : M id ≠ none := by rwa [upd_ne _ _ e1] at hid
                simp [e1, not_own hMq hm]
            · intro u hu; simpa using hu
          by_cases c1 : e.k = 1
          · have hl0 : e.kids = [] := by cases e with | mk k i m => exact kids_none hx c1
            have hc1 : cntE e = 1 := by rw [cntE_eq, hl0]; rfl
            have hvr := shaped_var hx (.inl c1)
            obtain ⟨m, hm⟩ := Int.eq_ofNat_of_zero_le hvr.1
            have hml : m < env.length := by omega
            have hm64 : m < 64 := by omega
            have hmi : (m : Int) < 64 := by omega
            have hv : tvE w env n e = env[m] := by
              unfold tvE
              rw [if_pos (by omega), ofE_eq, if_pos c1, hm]; simp [List.getD_eq_getElem?_getD, hml]
            have hge := lk_env (env := env) ((n + 1 : Nat) : Int) hml
            have hx1 : lkN w env (n + 1) = .int .i64 w.size :: .sl (rTb.encL w.funcs) .no :: .sl (rTb.encL w.preds) .no :: encA (env ++ [((n + 1 : Nat) : Int)]) := rfl
            have hmin : min (n + cntE e) 50001 = n + 1 := by omega
            have hadd : 3 + m = m + 3 := by omega
            clear hfr
            generalize ((n + 1 : Nat) : Int) = g at *
            have hl : (encA (env ++ [g])).length = 65 := by simp [h64]
            have hl2 : env.length + 1 = 65 := by omega
            have hm3 : m + 3 < 68 := by omega
            repeat' (first | (with_reducible refine T.sq fun K hK => ?_) | ((first | ((with_reducible refine T.reg hE ?hd ?_); (case hd => kernel_rfl)) | ((with_reducible refine T.any hE mixed ?hd ?hok ?_); (case hd => kernel_rfl); (case hok => kernel_rfl))); simp [*]; (repeat' (split; all_goals (rename_i hc; try simp [*])))) | ((with_reducible refine T.ret ?_); (refine fin_mem (by simp [*]) ?_ ?_)) | (with_reducible refine T.block ?_) | ((with_reducible refine T.skip ?_); simp [*]) | ((with_reducible refine T.exit ?_); simp [*]) | ((with_reducible refine T.br fun K1 K2 hK1 hK2 => ?_); simp [*]; try ((refine Br.intro (fun hc => ?_) (fun hc => ?_)) <;> (try simp at hc))) | (with_reducible refine Cont.go (by assumption) _ ?_) | (with_reducible refine Cnt.go (by assumption) ?_))
            · intro id hid
              by_cases e1 : id = i
              · subst e1; simp [hmin, hx1, hq]
              · have hm : M id ≠ none := by rwa [upd_ne _ _ e1] at hid
                simp [e1, not_own hMq hm]
            · intro u hu; simpa using hu
          · have hcc : cntE e = cntL e.kids + 1 := by rw [cntE_eq]
            have hk4 := kids_four hx
            have hoks : okTs w env i i N e.kids (lkN w env (n + 1)) := ⟨okLo_mk h64 c0, her, hk4, fun x hx' => by
              obtain ⟨j, hj, rfl⟩ := List.getElem_of_mem hx'
              have := ex_kid_lt e j hj
              exact ⟨allX_kid hx j hj, by omega⟩⟩
            obtain ⟨k2, hk2⟩ : ∃ k2, k2 = min (n + 1 + cntL e.kids) 50001 := ⟨_, rfl⟩
            have hk3 : min (n + cntE e) 50001 = k2 := by omega
            have hcd : decide (n + 1 + cntL e.kids ≤ 50000) = decide (n + cntE e ≤ 50000) := by
              by_cases c : n + cntE e ≤ 50000
              · rw [decide_eq_true c, decide_eq_true (by omega)]
              · rw [decide_eq_false c, decide_eq_false (by omega)]
            obtain ⟨B, hB⟩ : ∃ B, B = decide (n + cntE e ≤ 50000) := ⟨_, rfl⟩
            have hvl : okLook w.funcs w.size (tvL w env (n + 1) e.kids) ∧ tvE w env n e = lookV w.funcs w.size e.i (tvL w env (n + 1) e.kids) := by
              by_cases c : n + cntE e ≤ 50000
              · have ht : tvL w env (n + 1) e.kids = ofL w env e.kids := by unfold tvL; rw [if_pos (by omega)]
                refine ⟨by rw [ht]; exact ok_args her hx, ?_⟩
                rw [ht]; unfold tvE; rw [if_pos c, ofE_eq, if_neg c1]
              · have ht : tvL w env (n + 1) e.kids = zerosI e.kids.length := by unfold tvL; rw [if_neg (by omega)]
                refine ⟨by rw [ht]; exact okLook_zero her.1 hk4, ?_⟩
                rw [ht]; unfold tvE; rw [if_neg c, if_pos c0]
            obtain ⟨hv1, hv2⟩ := hvl
            obtain ⟨Z, hZ⟩ : ∃ Z, tvL w env (n + 1) e.kids = Z := ⟨_, rfl⟩
            rw [hZ] at hv1 hv2
            have hx2 : lkN w env k2 = .int .i64 w.size :: .sl (rTb.encL w.funcs) .no :: .sl (rTb.encL w.preds) .no :: encA (env ++ [(k2 : Int)]) := rfl
            rw [← hB] at hcd
            have hB2 : decide (n + cntE e ≤ 50000) = B := hB.symm
            have hk2' : min (n + 1 + cntL e.kids) 50001 = k2 := hk2.symm
            clear hcc hk2 hB hfr hpos
            repeat' (first | (with_reducible refine T.sq fun K hK => ?_) | ((first | ((with_reducible refine T.reg hE ?hd ?_); (case hd => kernel_rfl)) | ((with_reducible refine T.any hE mixed ?hd ?hok ?_); (case hd => kernel_rfl); (case hok => kernel_rfl))); simp [*]; (repeat' (split; all_goals (rename_i hc; try simp [*])))) | ((with_reducible refine T.ret ?_); (refine fin_mem (by simp [*]) ?_ ?_)) | (with_reducible refine T.block ?_) | ((with_reducible refine T.skip ?_); simp [*]) | ((with_reducible refine T.exit ?_); simp [*]) | ((with_reducible refine T.br fun K1 K2 hK1 hK2 => ?_); simp [*]; try ((refine Br.intro (fun hc => ?_) (fun hc => ?_)) <;> (try simp at hc))) | (with_reducible refine Cont.go (by assumption) _ ?_) | (with_reducible refine Cnt.go (by assumption) ?_))
            · intro id hid
              by_cases e1 : id = i
              · subst e1; simp [hk3, hx2, hq]
              · have hm : M id ≠ none := by rwa [upd_ne _ _ e1] at hid
                simp [e1, not_own hMq hm]
            · intro u hu; simpa using hu
        · cases h
      · cases h
    · cases h
end Go.Proofs.Ytaacfmakfkaddaa.Ax
