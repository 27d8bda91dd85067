/- Whether a formula is valid: by the reference; ModelValids. -/
import Derived.Test.YtaacfmakfkaddaaDxW
set_option linter.unusedVariables false
set_option linter.unusedSimpArgs false
namespace Go.Proofs.Ytaacfmakfkaddaa.Ax
open Go Go.Proofs

def okNx (w : Wo) (env fv : List Int) : Prop := envR w env ∧ fv.length ≤ 64 ∧ ∀ x ∈ fv, 0 ≤ x ∧ x < 64
noncomputable instance (w : Wo) (env fv : List Int) : Decidable (okNx w env fv) := Classical.propDecidable _
@[simp] noncomputable def gNext : List V → Option V := f3 (kRw rWo) (kIs .i64) (kIs .i64) fun w env fv => if okNx w env fv then some (.tup [.sl (encI .i64 (nxE (w.size - 1) fv.reverse env).1) .no, .bool (nxE (w.size - 1) fv.reverse env).2]) else none
set_option maxHeartbeats 4000000 in
theorem ok_rNext : PureOk Try.prog 19 gNext := by
  intro args r h
  obtain ⟨w, env, fv, rfl, hr⟩ := f3_inv h; clear h
  split at hr
  · rename_i hm
    obtain ⟨hen, hfl, hfv⟩ := hm
    cases hr
    obtain ⟨s, hs⟩ : ∃ s : Nat, w.size = s + 1 := ⟨(w.size - 1).toNat, by have := (world_of hen.1).1; omega⟩
    have hs3 : s ≤ 2 := by have := (world_of hen.1).1; omega
    have htop : w.size - 1 = s := by omega
    have hws : IntKind.i64.wrap (s : Int) = s := wrap64 (by omega) (by omega)
    have hid := envL_id hen.2.1
    have hwl : IntKind.i64.wrap ((fv.length : Int) - 1) = (fv.length : Int) - 1 := wrap64 (by omega) (by omega)
    obtain ⟨y, hy⟩ : ∃ y, nxE (w.size - 1) fv.reverse env = y := ⟨_, rfl⟩
    rw [hy]
    rw [htop] at hy
    have hnx : Hold (nxE (s : Int) fv.reverse env = y) := hy
    clear hy
    have hE := ((EnvOk.nil (P := Try.prog) (eq := fun _ => false) (own := fun _ => false) (mem := fun f => f == 15) EqOk.none).addm ok_rEnvG)
    refine ⟨⟨Try.f19, Try.func19, by decide, rfl⟩, pure_of_T Try.func19 rfl (by simp [Try.ntmps19]) fun q => ?_⟩
    repeat' (first | (with_reducible refine T.sq fun K hK => ?_) | ((first | ((with_reducible refine T.reg hE ?hd ?_); (case hd => kernel_rfl)) | ((with_reducible refine T.any hE mixed ?hd ?hok ?_); (case hd => kernel_rfl); (case hok => kernel_rfl))); simp [*]; (repeat' (split; all_goals (rename_i hc; try simp [*])))) | ((with_reducible refine T.ret ?_); refine fin_pure ?_; simp [*]; try (change Hold _)) | (with_reducible refine T.block ?_) | ((with_reducible refine T.skip ?_); simp [*]) | ((with_reducible refine T.exit ?_); simp [*]) | ((with_reducible refine T.br fun K1 K2 hK1 hK2 => ?_); simp [*]; try ((refine Br.intro (fun hc => ?_) (fun hc => ?_)) <;> (try simp at hc))) | (with_reducible refine Cont.go (by assumption) _ ?_) | (with_reducible refine Cnt.go (by assumption) ?_))
    refine T.loop (fun mm σ => ∃ (k : Nat) (env1 : List Int), k = mm ∧ k ≤ fv.length ∧ σ.get 2 = .sl (encI .i64 fv) .no ∧ σ.get 3 = .ptr (0 :: 5 :: q) 0 ∧ σ.M (0 :: 5 :: q) = some (.cells [.int .i64 ((s : Int) + 1), .sl (rTb.encL w.funcs) .no, .sl (rTb.encL w.preds) .no]) ∧ σ.get 8 = .gs (63 :: 24 :: 0 :: 13 :: q) 64 1 ∧ σ.M (63 :: 24 :: 0 :: 13 :: q) = some (.cells (encA env1)) ∧
      σ.get 9 = .int .i64 ((k : Int) - 1) ∧ Hold (envR w env1 ∧ nxE (s : Int) (fv.take k).reverse env1 = y)) fv.length ⟨fv.length, env, rfl, Nat.le_refl _, ?_⟩ ?_
    · simp [*]
      try (unfold Hold at *; exact ⟨hen, hnx⟩)
    rintro mm σ ⟨k, env1, rfl, hk, g0, g1, m1, g2, m2, g4, hst⟩
    have hen1 : envR w env1 := hst.1
    have hnx1 : Hold (nxE (s : Int) (fv.take k).reverse env1 = y) := hst.2
    clear hst hnx hen hid hwl
    have h64 := hen1.2.1
    cases k with
    | zero =>
      have g4' : σ.get 9 = .int .i64 (-1) := by rw [g4]; rfl
      obtain rfl : y = (env1, false) := by unfold Hold at hnx1; rw [← hnx1]; simp [nxE]
      have hch : chunk 1 (encA env1) 64 = encI .i64 env1 := chunk_ints .i64 _ h64
      clear hnx1 g4
      repeat' (first | (with_reducible refine T.sq fun K hK => ?_) | ((first | ((with_reducible refine T.reg hE ?hd ?_); (case hd => kernel_rfl)) | ((with_reducible refine T.any hE mixed ?hd ?hok ?_); (case hd => kernel_rfl); (case hok => kernel_rfl))); simp [*]; (repeat' (split; all_goals (rename_i hc; try simp [*])))) | (with_reducible refine T.block ?_) | ((with_reducible refine T.skip ?_); simp [*]) | ((with_reducible refine T.exit ?_); simp [*]) | ((with_reducible refine T.br fun K1 K2 hK1 hK2 => ?_); simp [*]; try ((refine Br.intro (fun hc => ?_) (fun hc => ?_)) <;> (try simp at hc))) | (with_reducible refine Cont.go (by assumption) _ ?_) | (with_reducible refine Cnt.go (by assumption) ?_))
      refine T.frzG 6 (by decide) ?_
      simp [Ax.frzG, *]
      repeat' (first | (with_reducible refine T.sq fun K hK => ?_) | ((first | ((with_reducible refine T.reg hE ?hd ?_); (case hd => kernel_rfl)) | ((with_reducible refine T.any hE mixed ?hd ?hok ?_); (case hd => kernel_rfl); (case hok => kernel_rfl))); simp [*]; (repeat' (split; all_goals (rename_i hc; try simp [*])))) | ((with_reducible refine T.ret ?_); refine fin_pure ?_; simp [*]; try (change Hold _)) | (with_reducible refine T.block ?_) | ((with_reducible refine T.skip ?_); simp [*]) | ((with_reducible refine T.exit ?_); simp [*]) | ((with_reducible refine T.br fun K1 K2 hK1 hK2 => ?_); simp [*]; try ((refine Br.intro (fun hc => ?_) (fun hc => ?_)) <;> (try simp at hc))) | (with_reducible refine Cont.go (by assumption) _ ?_) | (with_reducible refine Cnt.go (by assumption) ?_)) | succ k =>
      have g4' : σ.get 9 = .int .i64 (k : Int) := by rw [g4]; congr 1; omega
      have hkl : k < fv.length := by omega
      obtain ⟨hf0, hf1⟩ := hfv _ (List.getElem_mem hkl)
      obtain ⟨m, hm⟩ : ∃ m : Nat, fv[k] = m := ⟨fv[k].toNat, by omega⟩
      rw [hm] at hf0 hf1
      have hm64 : m < 64 := by omega
      have hm1 : m + 1 ≤ 64 := by omega
      have hvr := getD_range hen1 m
      obtain ⟨v, hv2⟩ : ∃ v, env1.getD m 0 = v := ⟨_, rfl⟩
      rw [hv2] at hvr
      have hvg : env1[m]'(by omega) = v := by rw [← hv2, List.getD_eq_getElem?_getD, List.getElem?_eq_getElem (by omega)]; rfl
      have hrev : (fv.take (k + 1)).reverse = fv[k] :: (fv.take k).reverse := by
        rw [List.take_add_one, List.getElem?_eq_getElem hkl]; simp
      have hnx2 : Hold (y = if v < (s : Int) then (env1.set m (v + 1), true) else nxE (s : Int) (fv.take k).reverse (env1.set m 0)) := by
        unfold Hold at *
        rw [← hnx1, hrev, nxE, hm]
        simp only [Int.toNat_natCast, hv2]
      have hwk : IntKind.i64.wrap ((k : Int) - 1) = (k : Int) - 1 := wrap64 (by omega) (by omega)
      have hk0 : ¬ (k : Int) < 0 := by omega
      have hk1 : (0 : Int) ≤ k := by omega
      have hg : (encA env1)[m]?.getD .junk = .int .i64 v := by rw [encA_get env1 m (by omega), hv2]
      clear hnx1 hrev g4 hfv hv2
      by_cases c : v < (s : Int)
      · have hyt : y = (env1.set m (v + 1), true) := by unfold Hold at hnx2; rw [hnx2, if_pos c]
        have hsp := encA_set env1 m (v + 1) (by omega)
        have hwv : IntKind.i64.wrap (v + 1) = v + 1 := wrap64 (by omega) (by omega)
        have hch : chunk 1 (encA (env1.set m (v + 1))) 64 = encI .i64 (env1.set m (v + 1)) := chunk_ints .i64 _ (by simp [h64])
        subst hyt
        clear hnx2
        repeat' (first | (with_reducible refine T.sq fun K hK => ?_) | ((first | ((with_reducible refine T.reg hE ?hd ?_); (case hd => kernel_rfl)) | ((with_reducible refine T.any hE mixed ?hd ?hok ?_); (case hd => kernel_rfl); (case hok => kernel_rfl))); simp [*]; (repeat' (split; all_goals (rename_i hc; try simp [*])))) | (with_reducible refine T.block ?_) | ((with_reducible refine T.skip ?_); simp [*]) | ((with_reducible refine T.exit ?_); simp [*]) | ((with_reducible refine T.br fun K1 K2 hK1 hK2 => ?_); simp [*]; try ((refine Br.intro (fun hc => ?_) (fun hc => ?_)) <;> (try simp at hc))) | (with_reducible refine Cont.go (by assumption) _ ?_) | (with_reducible refine Cnt.go (by assumption) ?_))
        refine T.frzG 6 (by decide) ?_
        simp [Ax.frzG, *]
        repeat' (first | (with_reducible refine T.sq fun K hK => ?_) | ((first | ((with_reducible refine T.reg hE ?hd ?_); (case hd => kernel_rfl)) | ((with_reducible refine T.any hE mixed ?hd ?hok ?_); (case hd => kernel_rfl); (case hok => kernel_rfl))); simp [*]; (repeat' (split; all_goals (rename_i hc; try simp [*])))) | ((with_reducible refine T.ret ?_); refine fin_pure ?_; simp [*]; try (change Hold _)) | (with_reducible refine T.block ?_) | ((with_reducible refine T.skip ?_); simp [*]) | ((with_reducible refine T.exit ?_); simp [*]) | ((with_reducible refine T.br fun K1 K2 hK1 hK2 => ?_); simp [*]; try ((refine Br.intro (fun hc => ?_) (fun hc => ?_)) <;> (try simp at hc))) | (with_reducible refine Cont.go (by assumption) _ ?_) | (with_reducible refine Cnt.go (by assumption) ?_))
      · have hnx3 : Hold (nxE (s : Int) (fv.take k).reverse (env1.set m 0) = y) := by unfold Hold at *; rw [hnx2, if_neg (by omega)]
        have hsp := encA_set env1 m 0 (by omega)
        have hen2 := env_set hen1 m (v := 0) (by omega)
        clear hnx2
        repeat' (first | (with_reducible refine T.sq fun K hK => ?_) | ((first | ((with_reducible refine T.reg hE ?hd ?_); (case hd => kernel_rfl)) | ((with_reducible refine T.any hE mixed ?hd ?hok ?_); (case hd => kernel_rfl); (case hok => kernel_rfl))); simp [*]; (repeat' (split; all_goals (rename_i hc; try simp [*])))) | (with_reducible refine T.block ?_) | ((with_reducible refine T.skip ?_); simp [*]) | ((with_reducible refine T.exit ?_); simp [*]) | ((with_reducible refine T.br fun K1 K2 hK1 hK2 => ?_); simp [*]; try ((refine Br.intro (fun hc => ?_) (fun hc => ?_)) <;> (try simp at hc))) | (with_reducible refine Cont.go (by assumption) _ ?_) | (with_reducible refine Cnt.go (by assumption) ?_))
        exact ⟨k, by omega, by omega, _, rfl, rfl, ⟨hen2, hnx3⟩⟩
  · cases hr

set_option maxHeartbeats 4000000 in
theorem ok_rValid : PureOk Try.prog 8 gValid := by
  intro args r h
  obtain ⟨w, e, rfl, ⟨⟩⟩ := f2_inv h; clear h
  have hd0 : decI .i64 [] = some [] := rfl
  have hr0 : List.range 0 = [] := rfl
  have hr1 : List.range 1 = [0] := rfl
  have hE := (((((((EnvOk.nil (P := Try.prog) (eq := fun _ => false) (own := fun _ => false) (mem := fun _ => false) EqOk.none).addf ok_rmRight).addf ok_rWantF).addf ok_rIsFree).addf ok_rEnv).addf ok_rTruth).addf ok_rNext)
  refine ⟨⟨Try.f8, Try.func8, by decide, rfl⟩, pure_of_T Try.func8 rfl (by simp [Try.ntmps8]) fun q => ?_⟩
  by_cases v1 : worldE w = 0
  rotate_left
  · have hv : Hold (validV w e = .tup [.bool false, .int .i64 241]) := by
      have h241 : worldE w = 241 := by
        unfold worldE at *; split <;> simp_all
      have ha : askW w e [] false = 241 := by unfold askW; rw [if_pos v1, h241]
      unfold Hold validV; rw [ha, if_pos (by omega)]
    repeat' (first | (with_reducible refine T.sq fun K hK => ?_) | ((first | ((with_reducible refine T.reg hE ?hd ?_); (case hd => kernel_rfl)) | ((with_reducible refine T.any hE mixed ?hd ?hok ?_); (case hd => kernel_rfl); (case hok => kernel_rfl))); simp [*]; (repeat' (split; all_goals (rename_i hc; try simp [*])))) | ((with_reducible refine T.ret ?_); refine fin_pure ?_; simp [*]; try (change Hold _)) | (with_reducible refine T.block ?_) | ((with_reducible refine T.skip ?_); simp [*]) | ((with_reducible refine T.exit ?_); simp [*]) | ((with_reducible refine T.br fun K1 K2 hK1 hK2 => ?_); simp [*]; try ((refine Br.intro (fun hc => ?_) (fun hc => ?_)) <;> (try simp at hc))) | (with_reducible refine Cont.go (by assumption) _ ?_) | (with_reducible refine Cnt.go (by assumption) ?_))
    all_goals (unfold Hold at *; rw [hv])
  have v2 : envOk w.size [] = true := rfl
  have hask : askW w e [] false = wantF e := by
    unfold askW wantF
    rw [if_neg (by omega), if_pos v2]
    cases isT e <;> rfl
  by_cases v3 : wantF e = 0
  rotate_left
  · have hv : Hold (validV w e = .tup [.bool false, .int .i64 (wantF e)]) := by
      unfold Hold validV; rw [hask, if_pos v3]
    repeat' (first | (with_reducible refine T.sq fun K hK => ?_) | ((first | ((with_reducible refine T.reg hE ?hd ?_); (case hd => kernel_rfl)) | ((with_reducible refine T.any hE mixed ?hd ?hok ?_); (case hd => kernel_rfl); (case hok => kernel_rfl))); simp [*]; (repeat' (split; all_goals (rename_i hc; try simp [*])))) | ((with_reducible refine T.ret ?_); refine fin_pure ?_; simp [*]; try (change Hold _)) | (with_reducible refine T.block ?_) | ((with_reducible refine T.skip ?_); simp [*]) | ((with_reducible refine T.exit ?_); simp [*]) | ((with_reducible refine T.br fun K1 K2 hK1 hK2 => ?_); simp [*]; try ((refine Br.intro (fun hc => ?_) (fun hc => ?_)) <;> (try simp at hc))) | (with_reducible refine Cont.go (by assumption) _ ?_) | (with_reducible refine Cnt.go (by assumption) ?_))
    all_goals (unfold Hold at *; rw [hv])
  rw [v3] at hask
  obtain ⟨h1, h2, h3, h4⟩ := ask_zero hask
  have her := envR_of h1 h2
  obtain ⟨a1, a2, a3⟩ := right_zero h3
  rw [nodesN_eq] at a1
  obtain ⟨res, hres⟩ : ∃ res, validW w e (freeV e).reverse (envL []) 0 = res := ⟨_, rfl⟩
  have hv : Hold (validV w e = .tup [.bool res.1, .int .i64 res.2]) := by unfold Hold validV; rw [if_neg (by omega), hres]
  have hres' : Hold (validW w e (freeV e).reverse (envL []) 0 = res) := hres
  have hokx : okX e := a3
  clear hask hres v2
  repeat' (first | (with_reducible refine T.sq fun K hK => ?_) | ((first | ((with_reducible refine T.reg hE ?hd ?_); (case hd => kernel_rfl)) | ((with_reducible refine T.any hE mixed ?hd ?hok ?_); (case hd => kernel_rfl); (case hok => kernel_rfl))); simp [*]; (repeat' (split; all_goals (rename_i hc; try simp [*])))) | ((with_reducible refine T.ret ?_); refine fin_pure ?_; simp [*]; try (change Hold _)) | (with_reducible refine T.block ?_) | ((with_reducible refine T.skip ?_); simp [*]) | ((with_reducible refine T.exit ?_); simp [*]) | ((with_reducible refine T.br fun K1 K2 hK1 hK2 => ?_); simp [*]; try ((refine Br.intro (fun hc => ?_) (fun hc => ?_)) <;> (try simp at hc))) | (with_reducible refine Cont.go (by assumption) _ ?_) | (with_reducible refine Cnt.go (by assumption) ?_))
  refine T.loop (fun n σ => ∃ (j : Nat) (x : V), n = 64 - j ∧ σ.get 2 = .ptr (0 :: 4 :: q) 0 ∧ σ.M (0 :: 4 :: q) = some (.cells (rWo.enc w)) ∧ σ.get 3 = .ptr (0 :: 5 :: q) 0 ∧ σ.M (0 :: 5 :: q) = some (.cells (encC e)) ∧ σ.get 8 = .int .i64 j ∧ σ.get 7 = x ∧ j ≤ 64 ∧ Hold ((upL (frE e) j = [] ∧ x = .sl [] .ex) ∨ (upL (frE e) j ≠ [] ∧ ∃ c d, x = .sl (encI .i64 (upL (frE e) j)) (.own (c :: d :: q) 1) ∧ σ.K (c :: d :: q) = true))) 64 ⟨0, .sl [] .ex, by omega, ?_⟩ ?_
  · simp [encC_eq, upL, Hold]
  rintro n σ ⟨j, x, rfl, g0, m0, g1, m1, g2, g3, g4, g5⟩
  rw [rWo_enc] at m0
  rw [encC_eq] at m1
  by_cases hj : j < 64
  · have hw : IntKind.i64.wrap ((j : Int) + 1) = (j : Int) + 1 := wrap64 (by omega) (by omega)
    have hji : (j : Int) < 64 := by omega
    have hlen := upL_len (frE e) j
    have hcap : ((upL (frE e) j).length + 1) * 8 ≤ 140737488355328 := by omega
    have hu : Hold (upL (frE e) (j + 1) = _) := upL.eq_2 (frE e) j
    by_cases c : (frE e).testBit j = true
    · have hb : hasB (frE e) (j : Int) = true := by unfold hasB; simp [c, hji]
      have hu2 : Hold (upL (frE e) (j + 1) = upL (frE e) j ++ [(j : Int)]) := by unfold Hold at *; rw [hu, if_pos c]
      clear hu
      rcases g5 with ⟨g5, rfl⟩ | ⟨g5, cc, d, rfl, g6⟩
      · have hn1 : Hold (upL (frE e) (j + 1) = [(j : Int)]) := by unfold Hold at *; rw [hu2, g5]; rfl
        clear hu2 g5
        repeat' (first | (with_reducible refine T.sq fun K hK => ?_) | ((first | ((with_reducible refine T.reg hE ?hd ?_); (case hd => kernel_rfl)) | ((with_reducible refine T.any hE mixed ?hd ?hok ?_); (case hd => kernel_rfl); (case hok => kernel_rfl))); simp [*]; (repeat' (split; all_goals (rename_i hc; try simp [*])))) | ((with_reducible refine T.ret ?_); refine fin_pure ?_; simp [*]; try (change Hold _)) | (with_reducible refine T.block ?_) | ((with_reducible refine T.skip ?_); simp [*]) | ((with_reducible refine T.exit ?_); simp [*]) | ((with_reducible refine T.br fun K1 K2 hK1 hK2 => ?_); simp [*]; try ((refine Br.intro (fun hc => ?_) (fun hc => ?_)) <;> (try simp at hc))) | (with_reducible refine Cont.go (by assumption) _ ?_) | (with_reducible refine Cnt.go (by assumption) ?_))
        refine ⟨64 - (j + 1), by omega, j + 1, rfl, by simp [encC_eq], by omega, by omega, ?_⟩
        unfold Hold at *
        rw [hn1]
        exact ⟨by simp, _, _, ⟨rfl, rfl, rfl⟩, .inl ⟨rfl, rfl⟩⟩
      · repeat' (first | (with_reducible refine T.sq fun K hK => ?_) | ((first | ((with_reducible refine T.reg hE ?hd ?_); (case hd => kernel_rfl)) | ((with_reducible refine T.any hE mixed ?hd ?hok ?_); (case hd => kernel_rfl); (case hok => kernel_rfl))); simp [*]; (repeat' (split; all_goals (rename_i hc; try simp [*])))) | ((with_reducible refine T.ret ?_); refine fin_pure ?_; simp [*]; try (change Hold _)) | (with_reducible refine T.block ?_) | ((with_reducible refine T.skip ?_); simp [*]) | ((with_reducible refine T.exit ?_); simp [*]) | ((with_reducible refine T.br fun K1 K2 hK1 hK2 => ?_); simp [*]; try ((refine Br.intro (fun hc => ?_) (fun hc => ?_)) <;> (try simp at hc))) | (with_reducible refine Cont.go (by assumption) _ ?_) | (with_reducible refine Cnt.go (by assumption) ?_))
        refine ⟨64 - (j + 1), by omega, j + 1, rfl, by simp [encC_eq], by omega, by omega, ?_⟩
        unfold Hold at *
        rw [hu2]
        exact ⟨by simp, _, _, ⟨encI_snoc _ _ _, rfl, rfl⟩, .inl ⟨rfl, rfl⟩⟩
    · have hb : hasB (frE e) (j : Int) = false := by unfold hasB; simp [c]
      have hu2 : Hold (upL (frE e) (j + 1) = upL (frE e) j) := by unfold Hold at *; rw [hu, if_neg c]
      clear hu
      have g5' : Hold ((upL (frE e) (j + 1) = [] ∧ x = .sl [] .ex) ∨ (upL (frE e) (j + 1) ≠ [] ∧ ∃ c d, x = .sl (encI .i64 (upL (frE e) (j + 1))) (.own (c :: d :: q) 1) ∧ σ.K (c :: d :: q) = true)) := by unfold Hold at *; rw [hu2]; exact g5
      clear g5 hu2
      repeat' (first | (with_reducible refine T.sq fun K hK => ?_) | ((first | ((with_reducible refine T.reg hE ?hd ?_); (case hd => kernel_rfl)) | ((with_reducible refine T.any hE mixed ?hd ?hok ?_); (case hd => kernel_rfl); (case hok => kernel_rfl))); simp [*]; (repeat' (split; all_goals (rename_i hc; try simp [*])))) | ((with_reducible refine T.ret ?_); refine fin_pure ?_; simp [*]; try (change Hold _)) | (with_reducible refine T.block ?_) | ((with_reducible refine T.skip ?_); simp [*]) | ((with_reducible refine T.exit ?_); simp [*]) | ((with_reducible refine T.br fun K1 K2 hK1 hK2 => ?_); simp [*]; try ((refine Br.intro (fun hc => ?_) (fun hc => ?_)) <;> (try simp at hc))) | (with_reducible refine Cont.go (by assumption) _ ?_) | (with_reducible refine Cnt.go (by assumption) ?_))
      exact ⟨64 - (j + 1), by omega, j + 1, rfl, by simp [encC_eq], by omega, by omega, g5'⟩
  · have hj2 : j = 64 := by omega
    subst hj2
    have hx : ∃ tk, x = .sl (encI .i64 (freeV e)) tk := by
      unfold Hold at g5
      rcases g5 with ⟨g5, rfl⟩ | ⟨g5, cc, d, rfl, g6⟩
      · exact ⟨_, by unfold freeV; rw [g5]; rfl⟩
      · exact ⟨_, rfl⟩
    obtain ⟨tk, rfl⟩ := hx
    have hfv : ∀ x ∈ freeV e, 0 ≤ x ∧ x < 64 := upL_mem (frE e) 64
    have hfl : (freeV e).length ≤ 64 := upL_len (frE e) 64
    clear g5
    generalize freeV e = fv at *
    repeat' (first | (with_reducible refine T.sq fun K hK => ?_) | ((first | ((with_reducible refine T.reg hE ?hd ?_); (case hd => kernel_rfl)) | ((with_reducible refine T.any hE mixed ?hd ?hok ?_); (case hd => kernel_rfl); (case hok => kernel_rfl))); simp [*]; (repeat' (split; all_goals (rename_i hc; try simp [*])))) | ((with_reducible refine T.ret ?_); refine fin_pure ?_; simp [*]; try (change Hold _)) | (with_reducible refine T.block ?_) | ((with_reducible refine T.skip ?_); simp [*]) | ((with_reducible refine T.exit ?_); simp [*]) | ((with_reducible refine T.br fun K1 K2 hK1 hK2 => ?_); simp [*]; try ((refine Br.intro (fun hc => ?_) (fun hc => ?_)) <;> (try simp at hc))) | (with_reducible refine Cont.go (by assumption) _ ?_) | (with_reducible refine Cnt.go (by assumption) ?_))
    refine T.loop (fun mm σ => ∃ (env : List Int) (n : Nat) (more : Bool) (tk : Tk), mm = (if more = true then 50001 - n else 0) ∧ σ.get 2 = .ptr (0 :: 4 :: q) 0 ∧ σ.M (0 :: 4 :: q) = some (.cells (rWo.enc w)) ∧ σ.get 3 = .ptr (0 :: 5 :: q) 0 ∧ σ.M (0 :: 5 :: q) = some (.cells (encC e)) ∧ σ.get 7 = .sl (encI .i64 fv) tk ∧ σ.get 9 = .sl (encI .i64 env) .no ∧ σ.get 10 = .int .i64 (50000 - (n : Int)) ∧ σ.get 11 = .bool more ∧
      Hold (envR w env ∧ (more = true → n ≤ 50000 ∧ validW w e fv.reverse env n = res) ∧ (more = false → res = (true, 0)))) 50001 ⟨envL [], 0, true, tk, by simp, ?_⟩ ?_
    · simp [g0, m0, g1, m1, g3, encC_eq]
      exact ⟨her, hres'⟩
    clear g0 m0 g1 m1 g2 g3 g4
    rintro mm σ ⟨env, n, more, tk, rfl, g0, m0, g1, m1, g2, g3, g4, g5, hst⟩
    rw [rWo_enc] at m0
    rw [encC_eq] at m1
    cases more with
    | false =>
      obtain rfl : res = (true, 0) := hst.2.2 rfl
      clear hst hres'
      repeat' (first | (with_reducible refine T.sq fun K hK => ?_) | ((first | ((with_reducible refine T.reg hE ?hd ?_); (case hd => kernel_rfl)) | ((with_reducible refine T.any hE mixed ?hd ?hok ?_); (case hd => kernel_rfl); (case hok => kernel_rfl))); simp [*]; (repeat' (split; all_goals (rename_i hc; try simp [*])))) | ((with_reducible refine T.ret ?_); refine fin_pure ?_; simp [*]; try (change Hold _)) | (with_reducible refine T.block ?_) | ((with_reducible refine T.skip ?_); simp [*]) | ((with_reducible refine T.exit ?_); simp [*]) | ((with_reducible refine T.br fun K1 K2 hK1 hK2 => ?_); simp [*]; try ((refine Br.intro (fun hc => ?_) (fun hc => ?_)) <;> (try simp at hc))) | (with_reducible refine Cont.go (by assumption) _ ?_) | (with_reducible refine Cnt.go (by assumption) ?_))
      all_goals (unfold Hold at *; rw [hv])
    | true =>
      have hen : envR w env := hst.1
      have hn : n ≤ 50000 := (hst.2.1 rfl).1
      have hval : validW w e fv.reverse env n = res := (hst.2.1 rfl).2
      obtain ⟨f1, f2, f3, f4, f5⟩ := fits w (SizeOf.sizeOf e + 1) e (by omega) (by omega) env (50000 - (n : Int))
      obtain ⟨x, hx⟩ : ∃ x, trE w e env = x := ⟨_, rfl⟩
      obtain ⟨y, hy⟩ : ∃ y, toE w e env (50000 - (n : Int)) = y := ⟨_, rfl⟩
      rw [hx, hy] at f1 f2
      rw [hx] at f5
      rw [hy] at f4
      have hok : okTo w e env (50000 - (n : Int)) := ⟨hen, ⟨a3, h4, by omega⟩, by omega, by omega⟩
      have hveq : Hold (res = if 50000 < n + x.2 then (false, 240) else if x.1 = false then (false, 0) else if (nxE (w.size - 1) fv.reverse env).2 = true then validW w e fv.reverse (nxE (w.size - 1) fv.reverse env).1 (n + x.2) else (true, 0)) := by
        unfold Hold
        rw [← hval, validW_eq, hx]
      have hnx : okNx w env fv := ⟨hen, hfl, hfv⟩
      have hwl : (encI .i64 fv).length ≤ 64 := by rw [encI_length]; exact hfl
      clear hst hval hres' her hfv f3
      unfold truF at hE
      by_cases c : n + x.2 ≤ 50000
      rotate_left
      · have e1 := f2 (by omega)
        have htl : told y = .agg [.bool y.1, .int .i64 y.2] := rfl
        obtain rfl : res = (false, 240) := by unfold Hold at hveq; rw [hveq, if_pos (by omega)]
        clear f1 f2 hveq f4
        repeat' (first | (with_reducible refine T.sq fun K hK => ?_) | ((first | ((with_reducible refine T.reg hE ?hd ?_); (case hd => kernel_rfl)) | ((with_reducible refine T.any hE mixed ?hd ?hok ?_); (case hd => kernel_rfl); (case hok => kernel_rfl))); simp [*]; (repeat' (split; all_goals (rename_i hc; try simp [*])))) | ((with_reducible refine T.ret ?_); refine fin_pure ?_; simp [*]; try (change Hold _)) | (with_reducible refine T.block ?_) | ((with_reducible refine T.skip ?_); simp [*]) | ((with_reducible refine T.exit ?_); simp [*]) | ((with_reducible refine T.br fun K1 K2 hK1 hK2 => ?_); simp [*]; try ((refine Br.intro (fun hc => ?_) (fun hc => ?_)) <;> (try simp at hc))) | (with_reducible refine Cont.go (by assumption) _ ?_) | (with_reducible refine Cnt.go (by assumption) ?_))
        all_goals (unfold Hold at *; rw [hv])
      have e1 := f1 (by omega)
      subst e1
      obtain ⟨xb, xn⟩ := x
      simp only at *
      have hci : ¬ 50000 - (n : Int) < (xn : Nat) := by omega
      have htl : ∀ b : Bool, told (b, (xn : Int)) = .agg [.bool b, .int .i64 (xn : Nat)] := fun _ => rfl
      by_cases c2 : xb = false
      · subst c2
        obtain rfl : res = (false, 0) := by unfold Hold at hveq; rw [hveq, if_neg (by omega)]; rfl
        clear f1 f2 hveq f4
        repeat' (first | (with_reducible refine T.sq fun K hK => ?_) | ((first | ((with_reducible refine T.reg hE ?hd ?_); (case hd => kernel_rfl)) | ((with_reducible refine T.any hE mixed ?hd ?hok ?_); (case hd => kernel_rfl); (case hok => kernel_rfl))); simp [*]; (repeat' (split; all_goals (rename_i hc; try simp [*])))) | ((with_reducible refine T.ret ?_); refine fin_pure ?_; simp [*]; try (change Hold _)) | (with_reducible refine T.block ?_) | ((with_reducible refine T.skip ?_); simp [*]) | ((with_reducible refine T.exit ?_); simp [*]) | ((with_reducible refine T.br fun K1 K2 hK1 hK2 => ?_); simp [*]; try ((refine Br.intro (fun hc => ?_) (fun hc => ?_)) <;> (try simp at hc))) | (with_reducible refine Cont.go (by assumption) _ ?_) | (with_reducible refine Cnt.go (by assumption) ?_))
        all_goals (unfold Hold at *; rw [hv])
      obtain rfl : xb = true := by simpa using c2
      have hws : IntKind.i64.wrap (50000 - (n : Int) - (xn : Int)) = 50000 - (n : Int) - (xn : Int) := wrap64 (by omega) (by omega)
      have hen2 := nx_env fv.reverse env hen
      obtain ⟨z, hz⟩ : ∃ z, nxE (w.size - 1) fv.reverse env = z := ⟨_, rfl⟩
      rw [hz] at hen2
      have hveq2 : Hold (res = if z.2 = true then validW w e fv.reverse z.1 (n + xn) else (true, 0)) := by unfold Hold at *; rw [hveq, if_neg (by omega), if_neg (by simp), hz]
      clear f1 f2 hveq f4
      repeat' (first | (with_reducible refine T.sq fun K hK => ?_) | ((first | ((with_reducible refine T.reg hE ?hd ?_); (case hd => kernel_rfl)) | ((with_reducible refine T.any hE mixed ?hd ?hok ?_); (case hd => kernel_rfl); (case hok => kernel_rfl))); simp [*]; (repeat' (split; all_goals (rename_i hc; try simp [*])))) | ((with_reducible refine T.ret ?_); refine fin_pure ?_; simp [*]; try (change Hold _)) | (with_reducible refine T.block ?_) | ((with_reducible refine T.skip ?_); simp [*]) | ((with_reducible refine T.exit ?_); simp [*]) | ((with_reducible refine T.br fun K1 K2 hK1 hK2 => ?_); simp [*]; try ((refine Br.intro (fun hc => ?_) (fun hc => ?_)) <;> (try simp at hc))) | (with_reducible refine Cont.go (by assumption) _ ?_) | (with_reducible refine Cnt.go (by assumption) ?_))
      cases hz2 : z.2 with
      | false =>
        refine ⟨0, by omega, z.1, n + xn, .inl ⟨rfl, by simp [encC_eq], rfl, by omega, rfl, ?_⟩⟩
        unfold Hold at *
        exact ⟨hen2, by rw [hveq2, hz2]; rfl⟩
      | true =>
        refine ⟨50001 - (n + xn), by omega, z.1, n + xn, .inr ⟨rfl, by simp [encC_eq], rfl, by omega, rfl, ?_⟩⟩
        unfold Hold at *
        exact ⟨hen2, c, by rw [hveq2, hz2]; rfl⟩
theorem ok_ModelValids : PureOk Try.prog 4 (f2 (kRw rWo) kE fun _ _ => some (.bool true)) := by
  intro args r h
  obtain ⟨w, e, rfl, ⟨⟩⟩ := f2_inv h; clear h
  have hE := (((EnvOk.nil (P := Try.prog) (eq := fun _ => false) (own := fun _ => false) (mem := fun _ => false) EqOk.none).addf ok_mValid).addf ok_rValid)
  refine ⟨⟨Try.f4, Try.func4, by decide, rfl⟩, pure_of_T Try.func4 rfl (by simp [Try.ntmps4]) fun q => ?_⟩
  obtain ⟨a, b, hv⟩ : ∃ a b, validV w e = .tup [.bool a, .int .i64 b] := by
    unfold validV; split
    all_goals exact ⟨_, _, rfl⟩
  cases a
  · repeat' (first | (with_reducible refine T.sq fun K hK => ?_) | ((first | ((with_reducible refine T.reg hE ?hd ?_); (case hd => kernel_rfl)) | ((with_reducible refine T.any hE mixed ?hd ?hok ?_); (case hd => kernel_rfl); (case hok => kernel_rfl))); simp [*]; (repeat' (split; all_goals (rename_i hc; try simp [*])))) | ((with_reducible refine T.ret ?_); refine fin_pure ?_; simp [*]; try (change Hold _)) | (with_reducible refine T.block ?_) | ((with_reducible refine T.skip ?_); simp [*]) | ((with_reducible refine T.exit ?_); simp [*]) | ((with_reducible refine T.br fun K1 K2 hK1 hK2 => ?_); simp [*]; try ((refine Br.intro (fun hc => ?_) (fun hc => ?_)) <;> (try simp at hc))) | (with_reducible refine Cont.go (by assumption) _ ?_) | (with_reducible refine Cnt.go (by assumption) ?_))
    all_goals (unfold Hold; first | rfl | (simp [*]; done))
  · repeat' (first | (with_reducible refine T.sq fun K hK => ?_) | ((first | ((with_reducible refine T.reg hE ?hd ?_); (case hd => kernel_rfl)) | ((with_reducible refine T.any hE mixed ?hd ?hok ?_); (case hd => kernel_rfl); (case hok => kernel_rfl))); simp [*]; (repeat' (split; all_goals (rename_i hc; try simp [*])))) | ((with_reducible refine T.ret ?_); refine fin_pure ?_; simp [*]; try (change Hold _)) | (with_reducible refine T.block ?_) | ((with_reducible refine T.skip ?_); simp [*]) | ((with_reducible refine T.exit ?_); simp [*]) | ((with_reducible refine T.br fun K1 K2 hK1 hK2 => ?_); simp [*]; try ((refine Br.intro (fun hc => ?_) (fun hc => ?_)) <;> (try simp at hc))) | (with_reducible refine Cont.go (by assumption) _ ?_) | (with_reducible refine Cnt.go (by assumption) ?_))
    all_goals (unfold Hold; first | rfl | (simp [*]; done))
end Go.Proofs.Ytaacfmakfkaddaa.Ax
