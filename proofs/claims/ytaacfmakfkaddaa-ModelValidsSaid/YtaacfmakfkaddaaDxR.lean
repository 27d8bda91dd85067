/- Contracts: whether a formula holds, by the program. -/
import Derived.Test.YtaacfmakfkaddaaDxC
import Derived.Test.YtaacfmakfkaddaaPlN
set_option linter.unusedVariables false
set_option linter.unusedSimpArgs false
namespace Go.Proofs.Ytaacfmakfkaddaa.Ax
open Go Go.Proofs

@[simp] def gTold : List V → Option V := f1 kB fun b => some (.int .i64 (if b = true then 1 else 0))
theorem ok_told : PureOk Try.prog 25 gTold := by
  intro args r h
  obtain ⟨b, rfl, ⟨⟩⟩ := f1_inv h
  clear h
  have hE := (EnvOk.nil (P := Try.prog) (eq := fun _ => false) (own := fun _ => false) (mem := fun _ => false) EqOk.none)
  refine ⟨⟨Try.f25, Try.func25, by decide, rfl⟩, pure_of_T Try.func25 rfl (by simp [Try.ntmps25]) fun q => ?_⟩
  cases b
  · repeat' (first | (with_reducible refine T.sq fun K hK => ?_) | ((first | ((with_reducible refine T.reg hE ?hd ?_); (case hd => kernel_rfl)) | ((with_reducible refine T.any hE mixed ?hd ?hok ?_); (case hd => kernel_rfl); (case hok => kernel_rfl))); simp [*]; (repeat' (split; all_goals (rename_i hc; try simp [*])))) | ((with_reducible refine T.ret ?_); refine fin_pure ?_; simp [*]; try (change Hold _)) | (with_reducible refine T.block ?_) | ((with_reducible refine T.skip ?_); simp [*]) | ((with_reducible refine T.exit ?_); simp [*]) | ((with_reducible refine T.br fun K1 K2 hK1 hK2 => ?_); simp [*]; try ((refine Br.intro (fun hc => ?_) (fun hc => ?_)) <;> (try simp at hc))) | (with_reducible refine Cont.go (by assumption) _ ?_) | (with_reducible refine Cnt.go (by assumption) ?_))
  · repeat' (first | (with_reducible refine T.sq fun K hK => ?_) | ((first | ((with_reducible refine T.reg hE ?hd ?_); (case hd => kernel_rfl)) | ((with_reducible refine T.any hE mixed ?hd ?hok ?_); (case hd => kernel_rfl); (case hok => kernel_rfl))); simp [*]; (repeat' (split; all_goals (rename_i hc; try simp [*])))) | ((with_reducible refine T.ret ?_); refine fin_pure ?_; simp [*]; try (change Hold _)) | (with_reducible refine T.block ?_) | ((with_reducible refine T.skip ?_); simp [*]) | ((with_reducible refine T.exit ?_); simp [*]) | ((with_reducible refine T.br fun K1 K2 hK1 hK2 => ?_); simp [*]; try ((refine Br.intro (fun hc => ?_) (fun hc => ?_)) <;> (try simp at hc))) | (with_reducible refine Cont.go (by assumption) _ ?_) | (with_reducible refine Cnt.go (by assumption) ?_))
def turnI (a : Int) : Int := if a = 2 then 2 else 1 - a
@[simp] def gTurned : List V → Option V := f1 (kI .i64) fun a => if 0 ≤ a ∧ a ≤ 2 then some (.int .i64 (turnI a)) else none
theorem ok_turned : PureOk Try.prog 28 gTurned := by
  intro args r h
  obtain ⟨a, rfl, hr⟩ := f1_inv h
  clear h
  split at hr
  · rename_i hm
    cases hr
    have hE := (EnvOk.nil (P := Try.prog) (eq := fun _ => false) (own := fun _ => false) (mem := fun _ => false) EqOk.none)
    refine ⟨⟨Try.f28, Try.func28, by decide, rfl⟩, pure_of_T Try.func28 rfl (by simp [Try.ntmps28]) fun q => ?_⟩
    by_cases c : a = 2
    · subst c
      have ht : turnI 2 = 2 := rfl
      repeat' (first | (with_reducible refine T.sq fun K hK => ?_) | ((first | ((with_reducible refine T.reg hE ?hd ?_); (case hd => kernel_rfl)) | ((with_reducible refine T.any hE mixed ?hd ?hok ?_); (case hd => kernel_rfl); (case hok => kernel_rfl))); simp [*]; (repeat' (split; all_goals (rename_i hc; try simp [*])))) | ((with_reducible refine T.ret ?_); refine fin_pure ?_; simp [*]; try (change Hold _)) | (with_reducible refine T.block ?_) | ((with_reducible refine T.skip ?_); simp [*]) | ((with_reducible refine T.exit ?_); simp [*]) | ((with_reducible refine T.br fun K1 K2 hK1 hK2 => ?_); simp [*]; try ((refine Br.intro (fun hc => ?_) (fun hc => ?_)) <;> (try simp at hc))) | (with_reducible refine Cont.go (by assumption) _ ?_) | (with_reducible refine Cnt.go (by assumption) ?_))
    · have ht : turnI a = 1 - a := by unfold turnI; rw [if_neg c]
      have hw : IntKind.i64.wrap (1 - a) = 1 - a := wrap64 (by omega) (by omega)
      repeat' (first | (with_reducible refine T.sq fun K hK => ?_) | ((first | ((with_reducible refine T.reg hE ?hd ?_); (case hd => kernel_rfl)) | ((with_reducible refine T.any hE mixed ?hd ?hok ?_); (case hd => kernel_rfl); (case hok => kernel_rfl))); simp [*]; (repeat' (split; all_goals (rename_i hc; try simp [*])))) | ((with_reducible refine T.ret ?_); refine fin_pure ?_; simp [*]; try (change Hold _)) | (with_reducible refine T.block ?_) | ((with_reducible refine T.skip ?_); simp [*]) | ((with_reducible refine T.exit ?_); simp [*]) | ((with_reducible refine T.br fun K1 K2 hK1 hK2 => ?_); simp [*]; try ((refine Br.intro (fun hc => ?_) (fun hc => ?_)) <;> (try simp at hc))) | (with_reducible refine Cont.go (by assumption) _ ?_) | (with_reducible refine Cnt.go (by assumption) ?_))
  · cases hr

/-! ### What a looker holds -/
def envOf (cs : List V) : List Int := ((cs.drop 3).take 64).map fun v => match v with | .int _ n => n | _ => 0
theorem envOf_eq {w : Wo} {env : List Int} (h : env.length = 64) (n : Nat) : envOf (lkN w env n) = env := by
  unfold envOf lkN
  simp only [List.drop_succ_cons, List.drop_zero]
  rw [show encA (env ++ [(n : Int)]) = env.map (V.int .i64) ++ [V.int .i64 n] by simp [encA], List.take_append_of_le_length (by simp [h]), List.take_of_length_le (by simp [h]), List.map_map]
  apply List.ext_getElem
  · simp
  · intro i h1 h2; simp
def haP (n : Nat) (x : Bool × Nat) : Int := if n + x.2 ≤ 50000 then (if x.1 = true then 1 else 0) else 2
def okHd (w : Wo) (ri i : Path) (cs : List V) : Prop := okLo w (envOf cs) ri i cs ∧ envR w (envOf cs)
theorem okHd_mk {w : Wo} {env : List Int} {ri : Path} {n : Nat} (h : envR w env) (hn : n ≤ 50000) : okHd w ri ri (lkN w env n) := by
  unfold okHd
  rw [envOf_eq h.2.1]
  exact ⟨okLo_mk h.2.1 hn, h⟩
def okF (N : Nat) (e : Ex) : Prop := allX e = true ∧ isT e = false ∧ SizeOf.sizeOf e < N
def okHo (w : Wo) (ri i : Path) (N : Nat) (e : Ex) (cs : List V) : Prop := okHd w ri i cs ∧ okF N e
noncomputable instance (w : Wo) (ri i : Path) (N : Nat) (e : Ex) (cs : List V) : Decidable (okHo w ri i N e cs) := Classical.propDecidable _
noncomputable def mHolds (w : Wo) (ri : Path) (N : Nat) : Path → List V → Mem → Toks → Option (V × Mem × Toks) := fun _ args M K => match args with
  | [.ptr i 0, ev] => match dec ev, M ri with
    | some e, some (.cells cs) => if okHo w ri i N e cs then some (.int .i64 (haP (wkN cs) (trE w e (envOf cs))), upd M ri (some (.cells (lkN w (envOf cs) (min (wkN cs + (trE w e (envOf cs)).2) 50001)))), K) else none
    | _, _ => none
  | _ => none
@[simp] theorem mHolds_ap (w : Wo) (ri : Path) (N : Nat) (q i : Path) (ev : V) (M : Mem) (K : Toks) : mHolds w ri N q [.ptr i 0, ev] M K = match dec ev, M ri with
    | some e, some (.cells cs) => if okHo w ri i N e cs then some (.int .i64 (haP (wkN cs) (trE w e (envOf cs))), upd M ri (some (.cells (lkN w (envOf cs) (min (wkN cs + (trE w e (envOf cs)).2) 50001)))), K) else none
    | _, _ => none := rfl
theorem add_freshL {q i : Path} {M : Mem} {cs : List V} {b : Option Box} (hM : M i = some (.cells cs)) : ∀ id, ¬ q <:+ id → M id = none → upd M i b id = none := fun id _ hn => by
  have : id ≠ i := fun e => by subst e; rw [hn] at hM; cases hM
  rw [upd_ne _ _ this]; exact hn
def qx (w : Wo) (e : Ex) (env : List Int) (till : Bool) : Bool × Nat := qnF ((trL w e.kids).getD 0 tf0) env e.i.toNat till (List.range w.size.toNat)
def okEa (w : Wo) (ri i : Path) (N : Nat) (e : Ex) (cs : List V) (till : Int) : Prop := okHd w ri i cs ∧ (0 ≤ e.i ∧ e.i ≤ 63) ∧ (till = 0 ∨ till = 1) ∧ ∃ a, e.kids = [a] ∧ okF N a
noncomputable instance (w : Wo) (ri i : Path) (N : Nat) (e : Ex) (cs : List V) (till : Int) : Decidable (okEa w ri i N e cs till) := Classical.propDecidable _
noncomputable def mEach (w : Wo) (ri : Path) (N : Nat) : Path → List V → Mem → Toks → Option (V × Mem × Toks) := fun _ args M K => match args with
  | [.ptr i 0, ev, .int .i64 till] => match dec ev, M ri with
    | some e, some (.cells cs) => if okEa w ri i N e cs till then some (.int .i64 (haP (wkN cs) (qx w e (envOf cs) (decide (till = 1)))), upd M ri (some (.cells (lkN w (envOf cs) (min (wkN cs + (qx w e (envOf cs) (decide (till = 1))).2) 50001)))), K) else none
    | _, _ => none
  | _ => none
@[simp] theorem mEach_ap (w : Wo) (ri : Path) (N : Nat) (q i : Path) (ev : V) (till : Int) (M : Mem) (K : Toks) : mEach w ri N q [.ptr i 0, ev, .int .i64 till] M K = match dec ev, M ri with
    | some e, some (.cells cs) => if okEa w ri i N e cs till then some (.int .i64 (haP (wkN cs) (qx w e (envOf cs) (decide (till = 1)))), upd M ri (some (.cells (lkN w (envOf cs) (min (wkN cs + (qx w e (envOf cs) (decide (till = 1))).2) 50001)))), K) else none
    | _, _ => none := rfl
theorem env_set {w : Wo} {env : List Int} (h : envR w env) (m : Nat) {v : Int} (hv : 0 ≤ v ∧ v < w.size) : envR w (env.set m v) := by
  refine ⟨h.1, by simp [h.2.1], fun u hu => ?_⟩
  rcases List.mem_or_eq_of_mem_set hu with h1 | h1
  · exact h.2.2 u h1
  · subst h1; exact hv
theorem lk_get {w : Wo} {env : List Int} (h : env.length = 64) (n m : Nat) (hm : m < 64) : (lkN w env n)[3 + m]?.getD .junk = .int .i64 (env.getD m 0) := by
  unfold lkN
  rw [show 3 + m = m + 3 by omega]
  simp only [List.getElem?_cons_succ]
  rw [lk_env n (by omega)]
  simp [List.getD_eq_getElem?_getD, List.getElem?_eq_getElem (show m < env.length by omega)]
theorem lk_splice {w : Wo} {env : List Int} (h : env.length = 64) (n m : Nat) (v : Int) (hm : m < 64) : (lkN w env n).take (3 + m) ++ V.int .i64 v :: (lkN w env n).drop (3 + m + 1) = lkN w (env.set m v) n := by
  unfold lkN
  rw [show 3 + m = m + 3 by omega, show m + 3 + 1 = (m + 1) + 3 by omega]
  simp only [List.take_succ_cons, List.drop_succ_cons, List.cons_append]
  rw [encA_set _ m _ (by simp; omega), List.set_append_left m _ (by omega)]
theorem lk_length {w : Wo} {env : List Int} (h : env.length = 64) (n : Nat) : (lkN w env n).length = 68 := by simp [lkN, h]

set_option maxHeartbeats 4000000 in
theorem ok_each {w : Wo} {ri : Path} {N : Nat} (ih : MemOk Try.prog 10 (mHolds w ri N)) : MemOk Try.prog 27 (mEach w ri N) := by
  intro q args M K0 z M' K' h
  unfold mEach at h
  split at h
  · rename_i i ev till
    split at h
    · rename_i e cs he hM
      obtain rfl := dec_inv he
      clear he
      split at h
      · rename_i hok
        obtain ⟨⟨⟨rfl, h64, hn, hcs⟩, her⟩, ⟨hi0, hi1⟩, htill, a, hkids, hfa⟩ := hok
        generalize envOf cs = env at *
        generalize wkN cs = n at *
        subst hcs
        simp only [Option.some.injEq, Prod.mk.injEq] at h
        obtain ⟨rfl, rfl, rfl⟩ := h
        refine ⟨⟨Try.f27, Try.func27, by decide, rfl⟩, add_freshL hM, ?_⟩
        obtain ⟨k, id0, l⟩ := e
        simp only [Ex.kids_mk, Ex.i_mk, Ex.k_mk] at *
        subst hkids
        obtain ⟨m, rfl⟩ := Int.eq_ofNat_of_zero_le hi0
        have hm : m < 64 := by omega
        have hmi : (m : Int) < 64 := by omega
        obtain ⟨s, hs⟩ : ∃ s : Nat, w.size = s := ⟨w.size.toNat, by have := (world_of her.1).1; omega⟩
        have hs1 : 1 ≤ s ∧ s ≤ 3 := by have := (world_of her.1).1; omega
        obtain ⟨f, hf⟩ : ∃ f, trE w a = f := ⟨_, rfl⟩
        obtain ⟨tl, htl⟩ : ∃ tl, decide (till = 1) = tl := ⟨_, rfl⟩
        obtain ⟨tn, htn⟩ : ∃ tn, turnI till = tn := ⟨_, rfl⟩
        have htn1 : tn = (if tl = true then 0 else 1) := by
          rcases htill with rfl | rfl
          · simp at htl; subst htl; rw [← htn]; rfl
          · simp at htl; subst htl; rw [← htn]; rfl
        have hb01 : ∀ b : Bool, ((if b = true then 1 else 0 : Int) = tn) ↔ b ≠ tl := fun b => by
          rw [htn1]; cases b <;> cases tl <;> simp
        have ht02 : 0 ≤ till ∧ till ≤ 2 := by omega
        have htn2 : Hold (tn = (if tl = true then 0 else 1)) := htn1
        have hb02 : Hold (∀ b : Bool, ((if b = true then 1 else 0 : Int) = tn) ↔ b ≠ tl) := hb01
        clear htn1 hb01
        have hx : qx w (.mk k m [a]) env tl = qnF f env m tl (List.range s) := by
          unfold qx
          simp only [Ex.kids_mk, Ex.i_mk]
          rw [tr_kid w (l := [a]) (j := 0) (by simp)]
          simp [hf, hs]
        rw [htl]
        obtain ⟨x, hxx⟩ : ∃ x, qx w (.mk k m [a]) env tl = x := ⟨_, rfl⟩
        rw [hxx]
        rw [hxx] at hx
        have hE := (((EnvOk.nil (P := Try.prog) (eq := fun _ => false) (own := fun _ => false) (mem := fun f => f == 10) EqOk.none).addf ok_turned).addm ih)
        refine ctr_of_T Try.func27 rfl (by simp [Try.ntmps27]) fun hMq hKq => ?_
        have hq := not_own hMq (id := i) (by rw [hM]; simp)
        have hq2 : ∀ c d, ¬ c :: d :: q = i := fun c d e => hq c d e.symm
        have hwk := fun {env : List Int} (h : env.length = 64) n => wkN_eq (w := w) h n
        have hg := lk_get (w := w) h64 n m hm
        have hll := lk_length (w := w) h64 n
        have h68 : 3 + m < 68 := by omega
        have h67 : 3 + m ≤ 67 := by omega
        have ev0 : envOf (lkN w env n) = env := envOf_eq h64 n
        repeat' (first | (with_reducible refine T.sq fun K hK => ?_) | ((first | ((with_reducible refine T.reg hE ?hd ?_); (case hd => kernel_rfl)) | ((with_reducible refine T.any hE mixed ?hd ?hok ?_); (case hd => kernel_rfl); (case hok => kernel_rfl))); simp [*]; (repeat' (split; all_goals (rename_i hc; try simp [*])))) | ((with_reducible refine T.ret ?_); (refine fin_mem (by simp [*]) ?_ ?_)) | (with_reducible refine T.block ?_) | ((with_reducible refine T.skip ?_); simp [*]) | ((with_reducible refine T.exit ?_); simp [*]) | ((with_reducible refine T.br fun K1 K2 hK1 hK2 => ?_); simp [*]; try ((refine Br.intro (fun hc => ?_) (fun hc => ?_)) <;> (try simp at hc))) | (with_reducible refine Cont.go (by assumption) _ ?_) | (with_reducible refine Cnt.go (by assumption) ?_))
        obtain ⟨was, hwas⟩ : ∃ was, env.getD m 0 = was := ⟨_, rfl⟩
        have hse : env.set m was = env := by
          rw [← hwas, List.getD_eq_getElem?_getD, List.getElem?_eq_getElem (by omega)]; simp
        have hr : ∀ j, j < s → (List.range s).drop j = j :: (List.range s).drop (j + 1) := fun j hj => by
          rw [List.drop_eq_getElem_cons (by simpa using hj)]; simp
        have hr2 : (List.range s).drop s = [] := List.drop_eq_nil_of_le (by simp)
        have hx1 : Hold (qnF f env m tl (List.range s) = x) := by unfold Hold; rw [hx]
        have hwr : 0 ≤ was ∧ was < w.size := by
          rw [← hwas, List.getD_eq_getElem?_getD, List.getElem?_eq_getElem (by omega)]
          exact her.2.2 _ (List.getElem_mem _)
        obtain ⟨fin1, hfin1⟩ : ∃ r, haP n x = r := ⟨_, rfl⟩
        obtain ⟨fin2, hfin2⟩ : ∃ r, min (n + x.2) 50001 = r := ⟨_, rfl⟩
        rw [hfin1, hfin2]
        have hf' := hf
        clear hx hxx hf ev0
        refine T.loop (fun mm σ => ∃ (j k' : Nat) (v0 aa : Int), mm = s - j ∧ σ.get 0 = .ptr i 0 ∧ σ.get 2 = .int .i64 till ∧ σ.get 4 = .ptr (0 :: 6 :: q) 0 ∧ σ.M (0 :: 6 :: q) = some (.cells [.int .i64 k, .int .i64 m, .sl (encL [a]) .no]) ∧ σ.get 7 = .int .i64 was ∧ σ.get 8 = .int .i64 aa ∧ σ.get 9 = .int .i64 j ∧ σ.M i = some (.cells (lkN w (env.set m v0) k')) ∧
          (∀ id, ¬ q <:+ id → id ≠ i → σ.M id = M id) ∧ (∀ t, K0 t = true → σ.K t = true) ∧ j ≤ s ∧ Hold ((0 ≤ v0 ∧ v0 < w.size) ∧ ((aa = tn ∧ k' ≤ 50000 ∧ n + x.2 = k' + (qnF f env m tl ((List.range s).drop j)).2 ∧ x.1 = (qnF f env m tl ((List.range s).drop j)).1) ∨ (aa ≠ tn ∧ aa = fin1 ∧ k' = fin2)))) s
          ⟨0, n, was, tn, by omega, ?_⟩ ?_
        · simp [hse, hq, hq2, hM, htn, hwas]
          unfold Hold at *
          rw [hx1]
          refine ⟨?_, fun id h1 h2 h3 => absurd ⟨[0, 6], by rw [h3]; rfl⟩ h1, hwr, hn, rfl, rfl⟩
          have hg2 := hg
          rw [List.getElem?_eq_getElem (by rw [hll]; omega), Option.getD_some, hwas] at hg2
          exact hg2
        rintro mm σ ⟨j, k', v0, aa, rfl, g0, g1, g2, m2, g3, g4, g5, gM, gF, gK, g6, hv0, g7⟩
        have hl2 : (env.set m v0).length = 64 := by simp [h64]
        have hll2 := lk_length (w := w) hl2 k'
        have hsp0 := lk_splice (w := w) hl2 k' m was hm
        rw [List.set_set, hse] at hsp0
        have hsz0 : (0 : Nat) < (lkN w (env.set m v0) k').length := by rw [hll2]; omega
        have hsz : (lkN w (env.set m v0) k')[0]'hsz0 = .int .i64 s := by rw [← hs]; rfl
        clear hll hg hM hwas
        by_cases hgo : j < s ∧ aa = tn
        · obtain ⟨hj, rfl⟩ := hgo
          obtain ⟨-, hk', hnx, hxb⟩ | ⟨hne, _⟩ := g7
          rotate_left
          · exact absurd rfl hne
          rw [hr j hj] at hnx hxb
          obtain ⟨y, hy⟩ : ∃ y, f (env.set m j) = y := ⟨_, rfl⟩
          simp only [qnF, hy] at hnx hxb
          have hji : (j : Int) < s := by omega
          have hj' : 0 ≤ (j : Int) ∧ (j : Int) < w.size := by omega
          have hsp1 := lk_splice (w := w) hl2 k' m (j : Int) hm
          rw [List.set_set] at hsp1
          have hl3 : (env.set m (j : Int)).length = 64 := by simp [h64]
          have hev := envOf_eq (w := w) hl3 k'
          have hwk3 := hwk hl3 k'
          have hok3 : okHo w i i N a (lkN w (env.set m (j : Int)) k') := ⟨okHd_mk (env_set her m hj') hk', hfa⟩
          have hw : IntKind.i64.wrap ((j : Int) + 1) = (j : Int) + 1 := wrap64 (by omega) (by omega)
          have hfy : trE w a (env.set m (j : Int)) = y := by rw [hf']; exact hy
          have hres : Hold (∃ k2, min (k' + y.2) 50001 = k2 ∧ ((haP k' y = aa ∧ k2 ≤ 50000 ∧ n + x.2 = k2 + (qnF f env m tl ((List.range s).drop (j + 1))).2 ∧ x.1 = (qnF f env m tl ((List.range s).drop (j + 1))).1) ∨ (haP k' y ≠ aa ∧ haP k' y = fin1 ∧ k2 = fin2))) := by
            unfold Hold at *
            refine ⟨_, rfl, ?_⟩
            by_cases c : k' + y.2 ≤ 50000
            · have hh : haP k' y = if y.1 = true then 1 else 0 := by unfold haP; rw [if_pos c]
              rw [hh]
              by_cases c2 : y.1 = tl
              · rw [if_pos c2] at hnx hxb
                refine .inr ⟨fun e => (hb02 _).1 e c2, ?_, by rw [← hfin2]; simp only at hnx; omega⟩
                simp only at hnx hxb
                have : haP n x = if x.1 = true then 1 else 0 := by unfold haP; rw [if_pos (by omega)]
                rw [← hfin1, this, hxb, c2]
              · rw [if_neg c2] at hnx hxb
                simp only at hnx hxb
                exact .inl ⟨(hb02 _).2 c2, by omega, by omega, hxb⟩
            · have hh : haP k' y = 2 := by unfold haP; rw [if_neg c]
              rw [hh]
              have hbig : ¬ n + x.2 ≤ 50000 := by
                split at hnx
                · simp only at hnx; omega
                · simp only at hnx; omega
              refine .inr ⟨fun e => ?_, ?_, by rw [← hfin2]; omega⟩
              · have e2 := htn2
                rw [e2] at e
                split at e <;> omega
              · rw [← hfin1]; unfold haP; rw [if_neg hbig]
          unfold Hold at hres
          obtain ⟨k2, hk2, hres⟩ := hres
          obtain ⟨a2, ha2⟩ : ∃ a2, haP k' y = a2 := ⟨_, rfl⟩
          rw [ha2] at hres
          have hres2 : Hold ((a2 = aa ∧ k2 ≤ 50000 ∧ n + x.2 = k2 + (qnF f env m tl ((List.range s).drop (j + 1))).2 ∧ x.1 = (qnF f env m tl ((List.range s).drop (j + 1))).1) ∨ (a2 ≠ aa ∧ a2 = fin1 ∧ k2 = fin2)) := hres
          clear hres hnx hxb hb02 htn2 hr hr2 hsp0 hx1
          repeat' (first | (with_reducible refine T.sq fun K hK => ?_) | ((first | ((with_reducible refine T.reg hE ?hd ?_); (case hd => kernel_rfl)) | ((with_reducible refine T.any hE mixed ?hd ?hok ?_); (case hd => kernel_rfl); (case hok => kernel_rfl))); simp [*]; (repeat' (split; all_goals (rename_i hc; try simp [*])))) | ((with_reducible refine T.ret ?_); (refine fin_mem (by simp [*]) ?_ ?_)) | (with_reducible refine T.block ?_) | ((with_reducible refine T.skip ?_); simp [*]) | ((with_reducible refine T.exit ?_); simp [*]) | ((with_reducible refine T.br fun K1 K2 hK1 hK2 => ?_); simp [*]; try ((refine Br.intro (fun hc => ?_) (fun hc => ?_)) <;> (try simp at hc))) | (with_reducible refine Cont.go (by assumption) _ ?_) | (with_reducible refine Cnt.go (by assumption) ?_))
          refine ⟨_, by omega, j + 1, rfl, by omega, k2, j, rfl, ?_, gK, by omega, ?_⟩
          · intro id h1 h2
            simp [h2, gF id h1 h2]
          · unfold Hold at *
            exact ⟨by omega, hres2⟩
        · have hend : Hold (aa = fin1 ∧ k' = fin2) := by
            unfold Hold at *
            rcases g7 with ⟨h1, h2, h3, h4⟩ | ⟨_, h⟩
            · have hj : j = s := by
                by_cases c : j < s
                · exact absurd ⟨c, h1⟩ hgo
                · omega
              rw [hj, hr2] at h3 h4
              simp only [qnF, Nat.add_zero] at h3 h4
              refine ⟨?_, by rw [← hfin2]; omega⟩
              have : haP n x = if x.1 = true then 1 else 0 := by unfold haP; rw [if_pos (by omega)]
              rw [← hfin1, this, h1, htn2, h4]
              cases tl <;> simp
            · exact h
          obtain ⟨rfl, rfl⟩ := hend
          have hM2 : ∀ id : Path, M id ≠ none → ¬ q <:+ id := fun id hid h => hid (hMq id h)
          clear hb02 htn2 hr hr2 hx1 g7
          have hdone : ∀ K : Prop, (∀ σ' : St, True → K) → True := fun _ _ => trivial
          by_cases hj : j < s
          · have hne : ¬ aa = tn := fun e => hgo ⟨hj, e⟩
            have hji : (j : Int) < s := by omega
            clear hgo hdone
            repeat' (first | (with_reducible refine T.sq fun K hK => ?_) | ((first | ((with_reducible refine T.reg hE ?hd ?_); (case hd => kernel_rfl)) | ((with_reducible refine T.any hE mixed ?hd ?hok ?_); (case hd => kernel_rfl); (case hok => kernel_rfl))); simp [*]; (repeat' (split; all_goals (rename_i hc; try simp [*])))) | ((with_reducible refine T.ret ?_); (refine fin_mem (by simp [*]) ?_ ?_)) | (with_reducible refine T.block ?_) | ((with_reducible refine T.skip ?_); simp [*]) | ((with_reducible refine T.exit ?_); simp [*]) | ((with_reducible refine T.br fun K1 K2 hK1 hK2 => ?_); simp [*]; try ((refine Br.intro (fun hc => ?_) (fun hc => ?_)) <;> (try simp at hc))) | (with_reducible refine Cont.go (by assumption) _ ?_) | (with_reducible refine Cnt.go (by assumption) ?_))
            · intro id hid
              by_cases e1 : id = i
              · subst e1; simp [hfin2]
              · have hm : M id ≠ none := by rwa [upd_ne _ _ e1] at hid
                simp [e1, gF id (hM2 id hm) e1]
            · intro u hu; simpa using gK u hu
          · have hji : ¬ (j : Int) < s := by omega
            clear hgo hdone
            repeat' (first | (with_reducible refine T.sq fun K hK => ?_) | ((first | ((with_reducible refine T.reg hE ?hd ?_); (case hd => kernel_rfl)) | ((with_reducible refine T.any hE mixed ?hd ?hok ?_); (case hd => kernel_rfl); (case hok => kernel_rfl))); simp [*]; (repeat' (split; all_goals (rename_i hc; try simp [*])))) | ((with_reducible refine T.ret ?_); (refine fin_mem (by simp [*]) ?_ ?_)) | (with_reducible refine T.block ?_) | ((with_reducible refine T.skip ?_); simp [*]) | ((with_reducible refine T.exit ?_); simp [*]) | ((with_reducible refine T.br fun K1 K2 hK1 hK2 => ?_); simp [*]; try ((refine Br.intro (fun hc => ?_) (fun hc => ?_)) <;> (try simp at hc))) | (with_reducible refine Cont.go (by assumption) _ ?_) | (with_reducible refine Cnt.go (by assumption) ?_))
            · intro id hid
              by_cases e1 : id = i
              · subst e1; simp [hfin2]
              · have hm : M id ≠ none := by rwa [upd_ne _ _ e1] at hid
                simp [e1, gF id (hM2 id hm) e1]
            · intro u hu; simpa using gK u hu
      · cases h
    · cases h
  · cases h
end Go.Proofs.Ytaacfmakfkaddaa.Ax
