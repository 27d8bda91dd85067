/- Contracts: the value of a term, by the program; ModelValues. -/
import Derived.Test.YtaacfmakfkaddaaDxB
set_option linter.unusedVariables false
set_option linter.unusedSimpArgs false
namespace Go.Proofs.Ytaacfmakfkaddaa.Ax
open Go Go.Proofs

def askW (w : Wo) (e : Ex) (env : List Int) (t : Bool) : Int := if worldE w ≠ 0 then worldE w else if envOk w.size env = true then (if rightE e ≠ 0 then rightE e else if isT e = t then 0 else 40) else 1
@[simp] noncomputable def mAskW : Path → List V → Mem → Toks → Option (V × Mem × Toks) := fun q args M K => f4 (kRw rWo) kE (kIs .i64) kB (fun w e env t => some (if askW w e env t = 0 then (V.tup [.ptr (0 :: 24 :: q) 0, .int .i64 0], upd M (0 :: 24 :: q) (some (.cells (lkN w (envL env) 0))), K) else (V.tup [.nilp, .int .i64 (askW w e env t)], M, K))) args
theorem envL_set (env : List Int) (j : Nat) (h : j < env.length) (h2 : j < 64) : (envL (env.take j)).set j env[j] = envL (env.take (j + 1)) := by
  unfold envL
  apply List.ext_getElem
  · simp
  · intro i h3 h4
    simp at h3
    rw [List.getElem_set]
    simp only [List.getElem_map, List.getElem_range, List.getD_eq_getElem?_getD, List.getElem?_take]
    by_cases c : j = i
    · subst c; simp [h]
    · rw [if_neg c]
      by_cases d : i < j
      · rw [if_pos d, if_pos (by omega)]
      · rw [if_neg d, if_neg (by omega)]
theorem envL_nil : envL [] = List.replicate 64 0 := by decide
theorem lk_len (w : Wo) (env : List Int) (n j : Nat) (hj : j < 64) : 3 + j + 1 ≤ (lkN w (envL env) n).length := by
  simp [lkN, envL_len]; omega
theorem lk_put (w : Wo) (env : List Int) (n j : Nat) (h : j < env.length) (hj : j < 64) : (lkN w (envL (env.take j)) n).take (3 + j) ++ V.int .i64 env[j] :: (lkN w (envL (env.take j)) n).drop (3 + j + 1) = lkN w (envL (env.take (j + 1))) n := by
  have hs := envL_set env j h hj
  have hl := envL_len (env.take j)
  generalize envL (env.take j) = A at *
  unfold lkN
  rw [show 3 + j = j + 3 by omega, show j + 3 + 1 = (j + 1) + 3 by omega]
  simp only [List.take_succ_cons, List.drop_succ_cons, List.cons_append]
  rw [encA_set _ j _ (by simp; omega), List.set_append_left j _ (by omega), hs]
set_option maxHeartbeats 2000000 in
theorem ok_mAskW : MemOk Try.prog 9 mAskW := by
  intro q args M K0 z M' K' h
  obtain ⟨w, e, env, t, rfl, h0⟩ := f4_inv h
  clear h
  have h := Option.some.inj h0
  clear h0
  refine ⟨⟨Try.f9, Try.func9, by decide, rfl⟩, fun id hid hn => ?_, ?_⟩
  · split at h
    · simp only [Prod.mk.injEq] at h
      obtain ⟨_, rfl, _⟩ := h
      rw [upd_ne _ _ (fun e => hid (by rw [e]; exact own_suf q 0 24))]; exact hn
    · simp only [Prod.mk.injEq] at h
      obtain ⟨_, rfl, _⟩ := h
      exact hn
  have hE := ((((EnvOk.nil (P := Try.prog) (eq := fun _ => false) (own := fun _ => false) (mem := fun _ => false) EqOk.none).addf ok_mRight).addf ok_Right).addf ok_IsTerm)
  refine ctr_of_T Try.func9 rfl (by simp [Try.ntmps9]) fun hMq hKq => ?_
  have bad : ∀ n : Int, askW w e env t = n → n ≠ 0 → z = V.tup [.nilp, .int .i64 n] ∧ M' = M ∧ K' = K0 := fun n h1 h2 => by
    rw [h1, if_neg h2] at h
    simp only [Prod.mk.injEq] at h
    exact ⟨h.1.symm, h.2.1.symm, h.2.2.symm⟩
  have good : askW w e env t = 0 → z = V.tup [.ptr (0 :: 24 :: q) 0, .int .i64 0] ∧ M' = upd M (0 :: 24 :: q) (some (.cells (lkN w (envL env) 0))) ∧ K' = K0 := fun h1 => by
    rw [if_pos h1] at h
    simp only [Prod.mk.injEq] at h
    exact ⟨h.1.symm, h.2.1.symm, h.2.2.symm⟩
  clear h
  have hbad : ∀ id : Path, M id ≠ none → ∀ c d, ¬ id = c :: d :: q := fun id hid => not_own hMq hid
  by_cases v1 : worldE w = 0
  rotate_left
  · obtain ⟨rfl, rfl, rfl⟩ := bad (worldE w) (by unfold askW; rw [if_pos v1]) v1
    clear bad good hbad
    repeat' (first | (with_reducible refine T.sq fun K hK => ?_) | ((first | ((with_reducible refine T.reg hE ?hd ?_); (case hd => kernel_rfl)) | ((with_reducible refine T.any hE mixed ?hd ?hok ?_); (case hd => kernel_rfl); (case hok => kernel_rfl))); simp [*]; (repeat' (split; all_goals (rename_i hc; try simp [*])))) | ((with_reducible refine T.ret ?_); (refine fin_mem (by simp [*]) ?_ ?_)) | (with_reducible refine T.block ?_) | ((with_reducible refine T.skip ?_); simp [*]) | ((with_reducible refine T.exit ?_); simp [*]) | ((with_reducible refine T.br fun K1 K2 hK1 hK2 => ?_); simp [*]; try ((refine Br.intro (fun hc => ?_) (fun hc => ?_)) <;> (try simp at hc))) | (with_reducible refine Cont.go (by assumption) _ ?_) | (with_reducible refine Cnt.go (by assumption) ?_))
    · intro id hid
      simp [not_own hMq hid]
    · intro u hu; simpa using hu
  have ha0 : Hold (askW w e env t = if envOk w.size env = true then (if rightE e ≠ 0 then rightE e else if isT e = t then 0 else 40) else 1) := by unfold Hold askW; rw [if_neg (by omega)]
  by_cases v2 : env.length ≤ 64
  rotate_left
  · obtain ⟨rfl, rfl, rfl⟩ := bad 1 (by unfold Hold envOk at ha0; rw [ha0, decide_eq_false v2]; rfl) (by omega)
    have v2i : (64 : Int) < (env.length : Int) := by omega
    clear bad good hbad ha0
    repeat' (first | (with_reducible refine T.sq fun K hK => ?_) | ((first | ((with_reducible refine T.reg hE ?hd ?_); (case hd => kernel_rfl)) | ((with_reducible refine T.any hE mixed ?hd ?hok ?_); (case hd => kernel_rfl); (case hok => kernel_rfl))); simp [*]; (repeat' (split; all_goals (rename_i hc; try simp [*])))) | ((with_reducible refine T.ret ?_); (refine fin_mem (by simp [*]) ?_ ?_)) | (with_reducible refine T.block ?_) | ((with_reducible refine T.skip ?_); simp [*]) | ((with_reducible refine T.exit ?_); simp [*]) | ((with_reducible refine T.br fun K1 K2 hK1 hK2 => ?_); simp [*]; try ((refine Br.intro (fun hc => ?_) (fun hc => ?_)) <;> (try simp at hc))) | (with_reducible refine Cont.go (by assumption) _ ?_) | (with_reducible refine Cnt.go (by assumption) ?_))
    · intro id hid
      simp [not_own hMq hid]
    · intro u hu; simpa using hu
  have v2i : ¬ (64 : Int) < (env.length : Int) := by omega
  repeat' (first | (with_reducible refine T.sq fun K hK => ?_) | ((first | ((with_reducible refine T.reg hE ?hd ?_); (case hd => kernel_rfl)) | ((with_reducible refine T.any hE mixed ?hd ?hok ?_); (case hd => kernel_rfl); (case hok => kernel_rfl))); simp [*]; (repeat' (split; all_goals (rename_i hc; try simp [*])))) | ((with_reducible refine T.ret ?_); (refine fin_mem (by simp [*]) ?_ ?_)) | (with_reducible refine T.block ?_) | ((with_reducible refine T.skip ?_); simp [*]) | ((with_reducible refine T.exit ?_); simp [*]) | ((with_reducible refine T.br fun K1 K2 hK1 hK2 => ?_); simp [*]; try ((refine Br.intro (fun hc => ?_) (fun hc => ?_)) <;> (try simp at hc))) | (with_reducible refine Cont.go (by assumption) _ ?_) | (with_reducible refine Cnt.go (by assumption) ?_))
  refine T.loop (fun n σ => ∃ j : Nat, n = env.length - j ∧ σ.get 3 = .bool t ∧ σ.get 4 = .ptr (0 :: 6 :: q) 0 ∧ σ.M (0 :: 6 :: q) = some (.cells (rWo.enc w)) ∧ σ.get 5 = .ptr (0 :: 7 :: q) 0 ∧ σ.M (0 :: 7 :: q) = some (.cells (encC e)) ∧ σ.get 11 = .ptr (0 :: 24 :: q) 0 ∧ σ.M (0 :: 24 :: q) = some (.cells (lkN w (envL (env.take j)) 0)) ∧ σ.get 26 = .sl (encI .i64 env) .no ∧ σ.get 27 = .int .i64 env.length ∧ σ.get 28 = .int .i64 j ∧ j ≤ env.length ∧ (∀ id, ¬ q <:+ id → σ.M id = M id) ∧ (∀ t, K0 t = true → σ.K t = true) ∧ Hold (valsOk (env.take j) w.size = true)) env.length ⟨0, by simp, by simp [*], by simp [*], by simp [*], by simp [*], by simp [*, encC_eq], by simp [*], ?_, by simp [*], by simp [*], by simp [*], by omega, ?_, by simp, rfl⟩ ?_
  · simp
    unfold lkN
    rw [envL_nil]; rfl
  · intro id h1
    have hn : ∀ c d, ¬ id = c :: d :: q := fun c d e => h1 (by rw [e]; exact own_suf q c d)
    simp [hn]
  rintro n σ ⟨j, rfl, g0, g1, m1, g2, m2, g3, m3, g4, g5, g6, g7, gF, gK, g8⟩
  rw [rWo_enc] at m1
  rw [encC_eq] at m2
  have hfin : ∀ id : Path, M id ≠ none → ¬ q <:+ id := fun id hid h => hid (hMq id h)
  by_cases hj : j < env.length
  · have hw : IntKind.i64.wrap ((j : Int) + 1) = (j : Int) + 1 := wrap64 (by omega) (by omega)
    have ht := vals_take env w.size j hj
    have hj64 : j < 64 := by omega
    have hji : (j : Int) < 64 := by omega
    by_cases c1 : env[j] < 0
    · obtain ⟨rfl, rfl, rfl⟩ := bad 1 (by unfold Hold envOk at ha0; rw [ha0, vals_bad hj (by simp; omega), Bool.and_false]; rfl) (by omega)
      clear bad good hbad ha0 ht
      repeat' (first | (with_reducible refine T.sq fun K hK => ?_) | ((first | ((with_reducible refine T.reg hE ?hd ?_); (case hd => kernel_rfl)) | ((with_reducible refine T.any hE mixed ?hd ?hok ?_); (case hd => kernel_rfl); (case hok => kernel_rfl))); simp [*]; (repeat' (split; all_goals (rename_i hc; try simp [*])))) | ((with_reducible refine T.ret ?_); (refine fin_mem (by simp [*]) ?_ ?_)) | (with_reducible refine T.block ?_) | ((with_reducible refine T.skip ?_); simp [*]) | ((with_reducible refine T.exit ?_); simp [*]) | ((with_reducible refine T.br fun K1 K2 hK1 hK2 => ?_); simp [*]; try ((refine Br.intro (fun hc => ?_) (fun hc => ?_)) <;> (try simp at hc))) | (with_reducible refine Cont.go (by assumption) _ ?_) | (with_reducible refine Cnt.go (by assumption) ?_))
      · intro id hid
        have hs := hfin id hid
        have hn : ∀ c d, ¬ id = c :: d :: q := fun c d e => hs (by rw [e]; exact own_suf q c d)
        simp [gF id hs]
      · intro u hu; simpa using gK u hu
    by_cases c2 : w.size ≤ env[j]
    · obtain ⟨rfl, rfl, rfl⟩ := bad 1 (by unfold Hold envOk at ha0; rw [ha0, vals_bad hj (by simp; omega), Bool.and_false]; rfl) (by omega)
      clear bad good hbad ha0 ht
      repeat' (first | (with_reducible refine T.sq fun K hK => ?_) | ((first | ((with_reducible refine T.reg hE ?hd ?_); (case hd => kernel_rfl)) | ((with_reducible refine T.any hE mixed ?hd ?hok ?_); (case hd => kernel_rfl); (case hok => kernel_rfl))); simp [*]; (repeat' (split; all_goals (rename_i hc; try simp [*])))) | ((with_reducible refine T.ret ?_); (refine fin_mem (by simp [*]) ?_ ?_)) | (with_reducible refine T.block ?_) | ((with_reducible refine T.skip ?_); simp [*]) | ((with_reducible refine T.exit ?_); simp [*]) | ((with_reducible refine T.br fun K1 K2 hK1 hK2 => ?_); simp [*]; try ((refine Br.intro (fun hc => ?_) (fun hc => ?_)) <;> (try simp at hc))) | (with_reducible refine Cont.go (by assumption) _ ?_) | (with_reducible refine Cnt.go (by assumption) ?_))
      · intro id hid
        have hs := hfin id hid
        simp [gF id hs]
      · intro u hu; simpa using gK u hu
    have hn : Hold (valsOk (env.take (j + 1)) w.size = true) := by unfold Hold at *; rw [ht, g8, decide_eq_true (show 0 ≤ env[j] by omega), decide_eq_true (show env[j] < w.size by omega)]; rfl
    clear bad good hbad ha0 ht hfin
    have hle := lk_len w (env.take j) 0 j hj64
    have hset := lk_put w env 0 j hj hj64
    repeat' (first | (with_reducible refine T.sq fun K hK => ?_) | ((first | ((with_reducible refine T.reg hE ?hd ?_); (case hd => kernel_rfl)) | ((with_reducible refine T.any hE mixed ?hd ?hok ?_); (case hd => kernel_rfl); (case hok => kernel_rfl))); simp [*]; (repeat' (split; all_goals (rename_i hc; try simp [*])))) | ((with_reducible refine T.ret ?_); (refine fin_mem (by simp [*]) ?_ ?_)) | (with_reducible refine T.block ?_) | ((with_reducible refine T.skip ?_); simp [*]) | ((with_reducible refine T.exit ?_); simp [*]) | ((with_reducible refine T.br fun K1 K2 hK1 hK2 => ?_); simp [*]; try ((refine Br.intro (fun hc => ?_) (fun hc => ?_)) <;> (try simp at hc))) | (with_reducible refine Cont.go (by assumption) _ ?_) | (with_reducible refine Cnt.go (by assumption) ?_))
    refine ⟨_, by omega, j + 1, rfl, by simp [encC_eq], rfl, by omega, by omega, ?_, gK, hn⟩
    intro id h1
    rw [if_neg (fun e => h1 (by rw [e]; exact own_suf q 0 24))]
    exact gF id h1
  · have w8 : j = env.length := by omega
    subst w8
    rw [List.take_length] at m3 g8
    have hv : Hold (envOk w.size env = true) := by unfold Hold envOk at *; rw [g8, decide_eq_true v2]; rfl
    have ha1 : Hold (askW w e env t = if rightE e ≠ 0 then rightE e else if isT e = t then 0 else 40) := by unfold Hold at *; rw [ha0, if_pos hv]
    clear ha0 hv g8
    by_cases v3 : rightE e = 0
    rotate_left
    · obtain ⟨rfl, rfl, rfl⟩ := bad (rightE e) (by unfold Hold at ha1; rw [ha1, if_pos v3]) v3
      clear bad good hbad ha1
      repeat' (first | (with_reducible refine T.sq fun K hK => ?_) | ((first | ((with_reducible refine T.reg hE ?hd ?_); (case hd => kernel_rfl)) | ((with_reducible refine T.any hE mixed ?hd ?hok ?_); (case hd => kernel_rfl); (case hok => kernel_rfl))); simp [*]; (repeat' (split; all_goals (rename_i hc; try simp [*])))) | ((with_reducible refine T.ret ?_); (refine fin_mem (by simp [*]) ?_ ?_)) | (with_reducible refine T.block ?_) | ((with_reducible refine T.skip ?_); simp [*]) | ((with_reducible refine T.exit ?_); simp [*]) | ((with_reducible refine T.br fun K1 K2 hK1 hK2 => ?_); simp [*]; try ((refine Br.intro (fun hc => ?_) (fun hc => ?_)) <;> (try simp at hc))) | (with_reducible refine Cont.go (by assumption) _ ?_) | (with_reducible refine Cnt.go (by assumption) ?_))
      · intro id hid
        have hs := hfin id hid
        simp [gF id hs]
      · intro u hu; simpa using gK u hu
    by_cases v4 : isT e = t
    · obtain ⟨rfl, rfl, rfl⟩ := good (by unfold Hold at ha1; rw [ha1, if_neg (by omega), if_pos v4])
      clear bad good hbad ha1
      repeat' (first | (with_reducible refine T.sq fun K hK => ?_) | ((first | ((with_reducible refine T.reg hE ?hd ?_); (case hd => kernel_rfl)) | ((with_reducible refine T.any hE mixed ?hd ?hok ?_); (case hd => kernel_rfl); (case hok => kernel_rfl))); simp [*]; (repeat' (split; all_goals (rename_i hc; try simp [*])))) | ((with_reducible refine T.ret ?_); (refine fin_mem (by simp [*]) ?_ ?_)) | (with_reducible refine T.block ?_) | ((with_reducible refine T.skip ?_); simp [*]) | ((with_reducible refine T.exit ?_); simp [*]) | ((with_reducible refine T.br fun K1 K2 hK1 hK2 => ?_); simp [*]; try ((refine Br.intro (fun hc => ?_) (fun hc => ?_)) <;> (try simp at hc))) | (with_reducible refine Cont.go (by assumption) _ ?_) | (with_reducible refine Cnt.go (by assumption) ?_))
      · intro id hid
        by_cases e1 : id = 0 :: 24 :: q
        · subst e1; simp [m3]
        · have hm : M id ≠ none := by rwa [upd_ne _ _ e1] at hid
          have hs := hfin id hm
          simp [e1, gF id hs]
      · intro u hu; simpa using gK u hu
    · obtain ⟨rfl, rfl, rfl⟩ := bad 40 (by unfold Hold at ha1; rw [ha1, if_neg (by omega), if_neg v4]) (by omega)
      clear bad good hbad ha1
      cases t <;> simp at v4
      all_goals (
        repeat' (first | (with_reducible refine T.sq fun K hK => ?_) | ((first | ((with_reducible refine T.reg hE ?hd ?_); (case hd => kernel_rfl)) | ((with_reducible refine T.any hE mixed ?hd ?hok ?_); (case hd => kernel_rfl); (case hok => kernel_rfl))); simp [*]; (repeat' (split; all_goals (rename_i hc; try simp [*])))) | ((with_reducible refine T.ret ?_); (refine fin_mem (by simp [*]) ?_ ?_)) | (with_reducible refine T.block ?_) | ((with_reducible refine T.skip ?_); simp [*]) | ((with_reducible refine T.exit ?_); simp [*]) | ((with_reducible refine T.br fun K1 K2 hK1 hK2 => ?_); simp [*]; try ((refine Br.intro (fun hc => ?_) (fun hc => ?_)) <;> (try simp at hc))) | (with_reducible refine Cont.go (by assumption) _ ?_) | (with_reducible refine Cnt.go (by assumption) ?_))
        · intro id hid
          have hs := hfin id hid
          simp [gF id hs]
        · intro u hu; simpa using gK u hu)

theorem ask_zero {w : Wo} {e : Ex} {env : List Int} {t : Bool} (h : askW w e env t = 0) : worldE w = 0 ∧ envOk w.size env = true ∧ rightE e = 0 ∧ isT e = t := by
  unfold askW at h
  split at h
  · rename_i c; exact absurd h c
  · rename_i c
    split at h
    · rename_i d
      split at h
      · rename_i f; exact absurd h f
      · rename_i f
        split at h
        · rename_i g; exact ⟨by omega, d, by omega, g⟩
        · cases h
    · cases h
theorem envR_of {w : Wo} {env : List Int} (h1 : worldE w = 0) (h2 : envOk w.size env = true) : envR w (envL env) := by
  refine ⟨h1, envL_len env, fun v hv => ?_⟩
  have hs := (world_of h1).1
  unfold envOk at h2
  simp only [Bool.and_eq_true, decide_eq_true_eq] at h2
  obtain ⟨i, hi, rfl⟩ := List.mem_map.1 hv
  rw [List.getD_eq_getElem?_getD]
  by_cases c : i < env.length
  · rw [List.getElem?_eq_getElem c]
    have := List.all_eq_true.1 h2.2 _ (List.getElem_mem c)
    simpa using this
  · rw [List.getElem?_eq_none (by omega)]
    simp; omega
def valV (w : Wo) (e : Ex) (env : List Int) : V := if askW w e env true = 0 then .tup [.int .i64 (ofE w (envL env) e), .int .i64 (cntE e : Nat), .int .i64 0] else .tup [.int .i64 0, .int .i64 0, .int .i64 (askW w e env true)]
@[simp] def gVal : List V → Option V := f3 (kRw rWo) kE (kIs .i64) fun w e env => some (valV w e env)
end Go.Proofs.Ytaacfmakfkaddaa.Ax
