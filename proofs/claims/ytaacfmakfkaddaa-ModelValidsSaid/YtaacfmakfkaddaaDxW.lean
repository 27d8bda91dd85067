/- Whether a formula is valid: by the program. -/
import Derived.Test.YtaacfmakfkaddaaDxV
import Derived.Test.YtaacfmakfkaddaaCxD
import Derived.Test.YtaacfmakfkaddaaBxX
set_option linter.unusedVariables false
set_option linter.unusedSimpArgs false
namespace Go.Proofs.Ytaacfmakfkaddaa.Ax
open Go Go.Proofs

/-- The next row of values: of these variables, the last one first. -/
def nxE (top : Int) : List Int → List Int → List Int × Bool
  | [], env => (env, false)
  | x :: r, env => if env.getD x.toNat 0 < top then (env.set x.toNat (env.getD x.toNat 0 + 1), true) else nxE top r (env.set x.toNat 0)
def validW (w : Wo) (e : Ex) (rv : List Int) (env : List Int) (n : Nat) : Bool × Int :=
  if 50000 < n + (trE w e env).2 then (false, 240)
  else if (trE w e env).1 = false then (false, 0)
  else if (nxE (w.size - 1) rv env).2 = true then validW w e rv (nxE (w.size - 1) rv env).1 (n + (trE w e env).2) else (true, 0)
termination_by 50001 - n
decreasing_by
  have := tr_pos w e env
  omega
theorem validW_eq (w : Wo) (e : Ex) (rv : List Int) (env : List Int) (n : Nat) : validW w e rv env n = if 50000 < n + (trE w e env).2 then (false, 240)
  else if (trE w e env).1 = false then (false, 0)
  else if (nxE (w.size - 1) rv env).2 = true then validW w e rv (nxE (w.size - 1) rv env).1 (n + (trE w e env).2) else (true, 0) := by rw [validW]
theorem upL_mem (s : Nat) : ∀ j, ∀ x ∈ upL s j, 0 ≤ x ∧ x < j
  | 0, x, h => by simp [upL] at h
  | j + 1, x, h => by
    rw [upL] at h
    split at h
    · rcases List.mem_append.1 h with h | h
      · have := upL_mem s j x h; omega
      · simp at h; omega
    · have := upL_mem s j x h; omega
theorem getD_range {w : Wo} {env : List Int} (h : envR w env) (m : Nat) : 0 ≤ env.getD m 0 ∧ env.getD m 0 < w.size := by
  have hs := (world_of h.1).1
  rw [List.getD_eq_getElem?_getD]
  by_cases c : m < env.length
  · rw [List.getElem?_eq_getElem c]; exact h.2.2 _ (List.getElem_mem c)
  · rw [List.getElem?_eq_none (by omega)]; simp; omega
/-- The row of values stays one. -/
theorem nx_env {w : Wo} : ∀ (rv env : List Int), envR w env → envR w (nxE (w.size - 1) rv env).1
  | [], env, h => h
  | x :: r, env, h => by
    unfold nxE
    have hr := getD_range h x.toNat
    split
    · exact env_set h _ (by omega)
    · exact nx_env r _ (env_set h _ (by have := (world_of h.1).1; omega))
def freeV (e : Ex) : List Int := upL (frE e) 64
def validV (w : Wo) (e : Ex) : V := if askW w e [] false ≠ 0 then .tup [.bool false, .int .i64 (askW w e [] false)] else .tup [.bool (validW w e (freeV e).reverse (envL []) 0).1, .int .i64 (validW w e (freeV e).reverse (envL []) 0).2]
@[simp] def gValid : List V → Option V := f2 (kRw rWo) kE fun w e => some (validV w e)
set_option maxHeartbeats 4000000 in
theorem ok_mValid : PureOk Try.prog 7 gValid := by
  intro args r h
  obtain ⟨w, e, rfl, ⟨⟩⟩ := f2_inv h; clear h
  have hd0 : decI .i64 [] = some [] := rfl
  by_cases v : askW w e [] false = 0
  rotate_left
  · have hE := ((EnvOk.nil (P := Try.prog) (eq := fun _ => false) (own := fun _ => false) (mem := fun f => f == 9) EqOk.none).addm ok_mAskW)
    refine ⟨⟨Try.f7, Try.func7, by decide, rfl⟩, pure_of_T Try.func7 rfl (by simp [Try.ntmps7]) fun q => ?_⟩
    have hv : Hold (validV w e = .tup [.bool false, .int .i64 (askW w e [] false)]) := by unfold Hold validV; rw [if_pos v]
    repeat' (first | (with_reducible refine T.sq fun K hK => ?_) | ((first | ((with_reducible refine T.reg hE ?hd ?_); (case hd => kernel_rfl)) | ((with_reducible refine T.any hE mixed ?hd ?hok ?_); (case hd => kernel_rfl); (case hok => kernel_rfl))); simp [*]; (repeat' (split; all_goals (rename_i hc; try simp [*])))) | ((with_reducible refine T.ret ?_); refine fin_pure ?_; simp [*]; try (change Hold _)) | (with_reducible refine T.block ?_) | ((with_reducible refine T.skip ?_); simp [*]) | ((with_reducible refine T.exit ?_); simp [*]) | ((with_reducible refine T.br fun K1 K2 hK1 hK2 => ?_); simp [*]; try ((refine Br.intro (fun hc => ?_) (fun hc => ?_)) <;> (try simp at hc))) | (with_reducible refine Cont.go (by assumption) _ ?_) | (with_reducible refine Cnt.go (by assumption) ?_))
    all_goals (unfold Hold at *; rw [hv])
  · obtain ⟨h1, h2, h3, h4⟩ := ask_zero v
    have her := envR_of h1 h2
    obtain ⟨a1, a2, a3⟩ := right_zero h3
    obtain ⟨res, hres⟩ : ∃ res, validW w e (freeV e).reverse (envL []) 0 = res := ⟨_, rfl⟩
    have hv : validV w e = .tup [.bool res.1, .int .i64 res.2] := by unfold validV; rw [if_neg (by omega), hres]
    have hres' : Hold (validW w e (freeV e).reverse (envL []) 0 = res) := hres
    have hfr := u64_nat (frE_lt a3)
    have hset : setV frE e = .tup [.int .u64 (frE e : Nat), .int .i64 0] := by rw [setV_eq, if_pos h3, h3]
    have hlist : listV (frE e) = .sl (encI .i64 (freeV e)) .no := rfl
    refine ⟨⟨Try.f7, Try.func7, by decide, rfl⟩, pure_of_T Try.func7 rfl (by simp [Try.ntmps7]) fun q => ?_⟩
    obtain ⟨ri, hri⟩ : ∃ ri : Path, ri = 0 :: 24 :: 0 :: 17 :: q := ⟨_, rfl⟩
    have hh := ok_holds (w := w) (ri := ri) (SizeOf.sizeOf e + 1)
    rw [hri] at hh
    have hE := (((((EnvOk.nil (P := Try.prog) (eq := fun _ => false) (own := fun _ => false) (mem := fun f => f == 9 || f == 10) EqOk.none).addf ok_Free).addf ok_wList).addm ok_mAskW).addm hh)
    clear hres
    repeat' (first | (with_reducible refine T.sq fun K hK => ?_) | ((first | ((with_reducible refine T.reg hE ?hd ?_); (case hd => kernel_rfl)) | ((with_reducible refine T.any hE mixed ?hd ?hok ?_); (case hd => kernel_rfl); (case hok => kernel_rfl))); simp [*]; (repeat' (split; all_goals (rename_i hc; try simp [*])))) | ((with_reducible refine T.ret ?_); refine fin_pure ?_; simp [*]; try (change Hold _)) | (with_reducible refine T.block ?_) | ((with_reducible refine T.skip ?_); simp [*]) | ((with_reducible refine T.exit ?_); simp [*]) | ((with_reducible refine T.br fun K1 K2 hK1 hK2 => ?_); simp [*]; try ((refine Br.intro (fun hc => ?_) (fun hc => ?_)) <;> (try simp at hc))) | (with_reducible refine Cont.go (by assumption) _ ?_) | (with_reducible refine Cnt.go (by assumption) ?_))
    have hfv : ∀ x ∈ freeV e, 0 ≤ x ∧ x < 64 := upL_mem (frE e) 64
    have hfl : (freeV e).length ≤ 64 := upL_len (frE e) 64
    generalize freeV e = fv at *
    obtain ⟨s, hs⟩ : ∃ s : Nat, w.size = s + 1 := ⟨(w.size - 1).toNat, by have := (world_of h1).1; omega⟩
    have hs3 : s ≤ 2 := by have := (world_of h1).1; omega
    have htop : w.size - 1 = s := by omega
    have hws : IntKind.i64.wrap (s : Int) = s := wrap64 (by omega) (by omega)
    have hl64 : ∀ {env : List Int}, envR w env → env.length = 64 := fun h => h.2.1
    have hfinal : ∀ x : V, x = .tup [.bool res.1, .int .i64 res.2] → Hold (x = validV w e) := fun x hx => by unfold Hold; rw [hx, hv]
    clear v hset hlist hfr
    refine T.loop (fun mm σ => ∃ (env : List Int) (n : Nat), mm = 50001 - n ∧ σ.get 2 = .ptr (0 :: 4 :: q) 0 ∧ σ.M (0 :: 4 :: q) = some (.cells [.int .i64 ((s : Int) + 1), .sl (rTb.encL w.funcs) .no, .sl (rTb.encL w.preds) .no]) ∧ σ.get 3 = .ptr (0 :: 5 :: q) 0 ∧ σ.M (0 :: 5 :: q) = some (.cells (encC e)) ∧ σ.get 6 = .ptr (0 :: 24 :: 0 :: 17 :: q) 0 ∧ σ.M (0 :: 24 :: 0 :: 17 :: q) = some (.cells (lkN w env n)) ∧
      σ.get 10 = .sl (encI .i64 fv) .no ∧ n ≤ 50000 ∧ Hold (envR w env ∧ validW w e fv.reverse env n = res)) 50001 ⟨envL [], 0, by omega, ?_⟩ ?_
    · simp [encC_eq, hs]
      exact ⟨her, hres'⟩
    rintro mm σ ⟨env, n, rfl, g0, m0, g1, m1, g2, m2, g3, hn, hst⟩
    rw [encC_eq] at m1
    have hen : envR w env := hst.1
    have hval : Hold (validW w e fv.reverse env n = res) := hst.2
    have he64 := hen.2.1
    have hwk := fun n => wkN_eq (w := w) he64 n
    have hev := fun n => envOf_eq (w := w) he64 n
    have hok : okHo w (0 :: 24 :: 0 :: 17 :: q) (0 :: 24 :: 0 :: 17 :: q) (SizeOf.sizeOf e + 1) e (lkN w env n) := ⟨okHd_mk hen hn, a3, h4, by omega⟩
    obtain ⟨x, hx⟩ : ∃ x, trE w e env = x := ⟨_, rfl⟩
    have hp := tr_pos w e env
    rw [hx] at hp
    have hveq : Hold (res = if 50000 < n + x.2 then (false, 240) else if x.1 = false then (false, 0) else if (nxE (w.size - 1) fv.reverse env).2 = true then validW w e fv.reverse (nxE (w.size - 1) fv.reverse env).1 (n + x.2) else (true, 0)) := by
      unfold Hold at *
      rw [← hval, validW_eq, hx]
    clear hst hval hres' her
    by_cases c1 : n + x.2 ≤ 50000
    rotate_left
    · obtain ⟨e1, e2⟩ := haP_over c1
      obtain rfl : res = (false, 240) := by unfold Hold at hveq; rw [hveq, if_pos (by omega)]
      clear hveq
      repeat' (first | (with_reducible refine T.sq fun K hK => ?_) | ((first | ((with_reducible refine T.reg hE ?hd ?_); (case hd => kernel_rfl)) | ((with_reducible refine T.any hE mixed ?hd ?hok ?_); (case hd => kernel_rfl); (case hok => kernel_rfl))); simp [*]; (repeat' (split; all_goals (rename_i hc; try simp [*])))) | ((with_reducible refine T.ret ?_); refine fin_pure ?_; simp [*]; try (change Hold _)) | (with_reducible refine T.block ?_) | ((with_reducible refine T.skip ?_); simp [*]) | ((with_reducible refine T.exit ?_); simp [*]) | ((with_reducible refine T.br fun K1 K2 hK1 hK2 => ?_); simp [*]; try ((refine Br.intro (fun hc => ?_) (fun hc => ?_)) <;> (try simp at hc))) | (with_reducible refine Cont.go (by assumption) _ ?_) | (with_reducible refine Cnt.go (by assumption) ?_))
    obtain ⟨e1, e2⟩ := haP_done c1
    by_cases c2 : x.1 = false
    · obtain rfl : res = (false, 0) := by unfold Hold at hveq; rw [hveq, if_neg (by omega), if_pos c2]
      rw [c2] at e1
      have e1 : haP n x = 0 := e1
      clear hveq
      repeat' (first | (with_reducible refine T.sq fun K hK => ?_) | ((first | ((with_reducible refine T.reg hE ?hd ?_); (case hd => kernel_rfl)) | ((with_reducible refine T.any hE mixed ?hd ?hok ?_); (case hd => kernel_rfl); (case hok => kernel_rfl))); simp [*]; (repeat' (split; all_goals (rename_i hc; try simp [*])))) | ((with_reducible refine T.ret ?_); refine fin_pure ?_; simp [*]; try (change Hold _)) | (with_reducible refine T.block ?_) | ((with_reducible refine T.skip ?_); simp [*]) | ((with_reducible refine T.exit ?_); simp [*]) | ((with_reducible refine T.br fun K1 K2 hK1 hK2 => ?_); simp [*]; try ((refine Br.intro (fun hc => ?_) (fun hc => ?_)) <;> (try simp at hc))) | (with_reducible refine Cont.go (by assumption) _ ?_) | (with_reducible refine Cnt.go (by assumption) ?_))
    · have c2 : x.1 = true := by simpa using c2
      rw [c2] at e1
      have e1 : haP n x = 1 := e1
      have hveq2 : Hold (res = if (nxE (w.size - 1) fv.reverse env).2 = true then validW w e fv.reverse (nxE (w.size - 1) fv.reverse env).1 (n + x.2) else (true, 0)) := by unfold Hold at *; rw [hveq, if_neg (by omega), if_neg (by rw [c2]; simp)]
      clear hveq
      obtain ⟨n1, hn1⟩ : ∃ n1, n + x.2 = n1 := ⟨_, rfl⟩
      rw [hn1] at c1 e2 hveq2
      have hmin : min n1 50001 = n1 := by omega
      have hlt : n < n1 := by omega
      clear e2
      have hwl : IntKind.i64.wrap ((fv.length : Int) - 1) = (fv.length : Int) - 1 := wrap64 (by omega) (by omega)
      obtain ⟨y, hy⟩ : ∃ y, nxE (w.size - 1) fv.reverse env = y := ⟨_, rfl⟩
      have hyen : envR w y.1 := by rw [← hy]; exact nx_env _ _ hen
      rw [hy, ] at hveq2
      rw [htop] at hy
      have hnx : Hold (nxE (s : Int) fv.reverse env = y) := hy
      clear hy
      repeat' (first | (with_reducible refine T.sq fun K hK => ?_) | ((first | ((with_reducible refine T.reg hE ?hd ?_); (case hd => kernel_rfl)) | ((with_reducible refine T.any hE mixed ?hd ?hok ?_); (case hd => kernel_rfl); (case hok => kernel_rfl))); simp [*]; (repeat' (split; all_goals (rename_i hc; try simp [*])))) | ((with_reducible refine T.ret ?_); refine fin_pure ?_; simp [*]; try (change Hold _)) | (with_reducible refine T.block ?_) | ((with_reducible refine T.skip ?_); simp [*]) | ((with_reducible refine T.exit ?_); simp [*]) | ((with_reducible refine T.br fun K1 K2 hK1 hK2 => ?_); simp [*]; try ((refine Br.intro (fun hc => ?_) (fun hc => ?_)) <;> (try simp at hc))) | (with_reducible refine Cont.go (by assumption) _ ?_) | (with_reducible refine Cnt.go (by assumption) ?_))
      refine T.loop (fun mm σ => ∃ (k : Nat) (env1 : List Int), k = mm ∧ k ≤ fv.length ∧ σ.get 2 = .ptr (0 :: 4 :: q) 0 ∧ σ.M (0 :: 4 :: q) = some (.cells [.int .i64 ((s : Int) + 1), .sl (rTb.encL w.funcs) .no, .sl (rTb.encL w.preds) .no]) ∧ σ.get 3 = .ptr (0 :: 5 :: q) 0 ∧ σ.M (0 :: 5 :: q) = some (.cells [.int .i64 e.k, .int .i64 e.i, .sl (encL e.kids) .no]) ∧ σ.get 6 = .ptr (0 :: 24 :: 0 :: 17 :: q) 0 ∧ σ.M (0 :: 24 :: 0 :: 17 :: q) = some (.cells (lkN w env1 n1)) ∧
        σ.get 10 = .sl (encI .i64 fv) .no ∧ σ.get 11 = .int .i64 ((k : Int) - 1) ∧ Hold (envR w env1 ∧ nxE (s : Int) (fv.take k).reverse env1 = y)) fv.length ⟨fv.length, env, rfl, Nat.le_refl _, ?_⟩ ?_
      · simp [*]
        try (unfold Hold at *; exact ⟨hen, hnx⟩)
      clear hnx hn hwl g0 m0 g1 m1 g2 m2 g3 hok hwk hev he64 hx hp e1
      rintro mm σ ⟨k, env1, rfl, hk, g0, m0, g1, m1, g2, m2, g3, g4, hst⟩
      have hen1 : envR w env1 := hst.1
      have hnx : Hold (nxE (s : Int) (fv.take k).reverse env1 = y) := hst.2
      clear hst
      have h64 := hen1.2.1
      cases k with
      | zero =>
        have g4' : σ.get 11 = .int .i64 (-1) := by rw [g4]; rfl
        have hyf : y = (env1, false) := by unfold Hold at hnx; rw [← hnx]; simp [nxE]
        obtain rfl : res = (true, 0) := by unfold Hold at hveq2; rw [hveq2, hyf]; rfl
        clear hnx hveq2 g4
        repeat' (first | (with_reducible refine T.sq fun K hK => ?_) | ((first | ((with_reducible refine T.reg hE ?hd ?_); (case hd => kernel_rfl)) | ((with_reducible refine T.any hE mixed ?hd ?hok ?_); (case hd => kernel_rfl); (case hok => kernel_rfl))); simp [*]; (repeat' (split; all_goals (rename_i hc; try simp [*])))) | ((with_reducible refine T.ret ?_); refine fin_pure ?_; simp [*]; try (change Hold _)) | (with_reducible refine T.block ?_) | ((with_reducible refine T.skip ?_); simp [*]) | ((with_reducible refine T.exit ?_); simp [*]) | ((with_reducible refine T.br fun K1 K2 hK1 hK2 => ?_); simp [*]; try ((refine Br.intro (fun hc => ?_) (fun hc => ?_)) <;> (try simp at hc))) | (with_reducible refine Cont.go (by assumption) _ ?_) | (with_reducible refine Cnt.go (by assumption) ?_)) | succ k =>
        have g4' : σ.get 11 = .int .i64 (k : Int) := by rw [g4]; congr 1; omega
        have hkl : k < fv.length := by omega
        obtain ⟨hf0, hf1⟩ := hfv _ (List.getElem_mem hkl)
        obtain ⟨m, hm⟩ : ∃ m : Nat, fv[k] = m := ⟨fv[k].toNat, by omega⟩
        rw [hm] at hf0 hf1
        have hm64 : m < 64 := by omega
        have hm67 : 3 + m ≤ 67 := by omega
        have hm68 : 3 + m < 68 := by omega
        have hg := lk_get (w := w) h64 n1 m hm64
        have hll := lk_length (w := w) h64 n1
        have hvr := getD_range hen1 m
        obtain ⟨v, hv2⟩ : ∃ v, env1.getD m 0 = v := ⟨_, rfl⟩
        rw [hv2] at hg hvr
        have hrev : (fv.take (k + 1)).reverse = fv[k] :: (fv.take k).reverse := by
          rw [List.take_add_one, List.getElem?_eq_getElem hkl]; simp
        have hnx2 : Hold (y = if v < (s : Int) then (env1.set m (v + 1), true) else nxE (s : Int) (fv.take k).reverse (env1.set m 0)) := by
          unfold Hold at *
          rw [← hnx, hrev, nxE, hm]
          simp only [Int.toNat_natCast, hv2]
        have hwk : IntKind.i64.wrap ((k : Int) - 1) = (k : Int) - 1 := wrap64 (by omega) (by omega)
        have hg2 : (lkN w env1 n1)[3 + m]'(by rw [hll]; exact hm68) = .int .i64 v := by
          have := hg
          rw [List.getElem?_eq_getElem (by rw [hll]; exact hm68), Option.getD_some] at this
          exact this
        clear hnx hrev g4 hfv
        have hk0 : ¬ (k : Int) < 0 := by omega
        have hk1 : (0 : Int) ≤ k := by omega
        by_cases c : v = s
        · subst c
          have hnx3 : Hold (nxE (s : Int) (fv.take k).reverse (env1.set m 0) = y) := by unfold Hold at *; rw [hnx2, if_neg (by omega)]
          have hsp := lk_splice (w := w) h64 n1 m 0 hm64
          have hen2 := env_set hen1 m (v := 0) (by omega)
          clear hnx2
          repeat' (first | (with_reducible refine T.sq fun K hK => ?_) | ((first | ((with_reducible refine T.reg hE ?hd ?_); (case hd => kernel_rfl)) | ((with_reducible refine T.any hE mixed ?hd ?hok ?_); (case hd => kernel_rfl); (case hok => kernel_rfl))); simp [*]; (repeat' (split; all_goals (rename_i hc; try simp [*])))) | ((with_reducible refine T.ret ?_); refine fin_pure ?_; simp [*]; try (change Hold _)) | (with_reducible refine T.block ?_) | ((with_reducible refine T.skip ?_); simp [*]) | ((with_reducible refine T.exit ?_); simp [*]) | ((with_reducible refine T.br fun K1 K2 hK1 hK2 => ?_); simp [*]; try ((refine Br.intro (fun hc => ?_) (fun hc => ?_)) <;> (try simp at hc))) | (with_reducible refine Cont.go (by assumption) _ ?_) | (with_reducible refine Cnt.go (by assumption) ?_))
          exact ⟨k, by omega, by omega, _, rfl, rfl, ⟨hen2, hnx3⟩⟩
        · have hyt : y = (env1.set m (v + 1), true) := by unfold Hold at hnx2; rw [hnx2, if_pos (by omega)]
          have hsp := lk_splice (w := w) h64 n1 m (v + 1) hm64
          have hwv : IntKind.i64.wrap (v + 1) = v + 1 := wrap64 (by omega) (by omega)
          have hen2 := env_set hen1 m (v := v + 1) (by omega)
          have hval2 : Hold (validW w e fv.reverse (env1.set m (v + 1)) n1 = res) := by unfold Hold at *; rw [hveq2, hyt]; rfl
          clear hnx2 hveq2
          repeat' (first | (with_reducible refine T.sq fun K hK => ?_) | ((first | ((with_reducible refine T.reg hE ?hd ?_); (case hd => kernel_rfl)) | ((with_reducible refine T.any hE mixed ?hd ?hok ?_); (case hd => kernel_rfl); (case hok => kernel_rfl))); simp [*]; (repeat' (split; all_goals (rename_i hc; try simp [*])))) | ((with_reducible refine T.ret ?_); refine fin_pure ?_; simp [*]; try (change Hold _)) | (with_reducible refine T.block ?_) | ((with_reducible refine T.skip ?_); simp [*]) | ((with_reducible refine T.exit ?_); simp [*]) | ((with_reducible refine T.br fun K1 K2 hK1 hK2 => ?_); simp [*]; try ((refine Br.intro (fun hc => ?_) (fun hc => ?_)) <;> (try simp at hc))) | (with_reducible refine Cont.go (by assumption) _ ?_) | (with_reducible refine Cnt.go (by assumption) ?_))
          exact ⟨50001 - n1, by omega, _, n1, rfl, by simp [encC_eq], rfl, c1, ⟨hen2, hval2⟩⟩
end Go.Proofs.Ytaacfmakfkaddaa.Ax
