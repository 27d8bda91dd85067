/- Contracts: values of variables; the value of a term, by the reference. -/
import Derived.Test.YtaacfmakfkaddaaCxP
set_option linter.unusedVariables false
set_option linter.unusedSimpArgs false
namespace Go.Proofs.Ytaacfmakfkaddaa.Ax
section
open Go
/-- The row that a slot points to is written no more. -/
def frzS (t : Nat) (σ : St) : St := match σ.get t with
  | .ms id 0 len cap => match σ.M id with
    | some (.cells cs) => if len ≤ cs.length ∧ len ≤ cap ∧ cap ≤ 9223372036854775807 then { σ with get := fun u => if u = t then .sl ((cs.take len).map fun c => [c]) .no else σ.get u, M := upd σ.M id none } else σ
    | _ => σ
  | _ => σ
theorem Rel.frzS {N : Nat} {p : Path} {σ : St} {ds : List Deferred} {G : Ghost} {a : Act} {w : World} (h : Rel N p ds G σ a w) (t : Nat) (ht : t < N) : Frzd N p ds G σ (Ax.frzS t σ) a w := by
  unfold Ax.frzS
  split
  · rename_i id len cap hg
    split
    · rename_i cs hm
      split
      · rename_i hlc
        obtain ⟨hl1, hl2, hl3⟩ := hlc
        refine Frzd.box h t ht hm _ fun b arr v hl hba hle hv => ?_
        rw [hg] at hv
        cases hv with
        | ms _ _ _ _ b' hb' =>
          rw [hl] at hb'; cases hb'
          have hlen : ((cs.take len).map fun c => [c]).length = len := by simp; omega
          have key := Rep.sl (G := G.frzB b arr) b 0 cap 1 ((cs.take len).map fun c => [c]) .no (fun i j => arr[i]?.getD undef) (fun el hel => by
            obtain ⟨c, _, rfl⟩ := List.mem_map.1 hel; rfl) (by rw [hlen]; exact hl2) hl3 (fun i j el x h1 h2 => ?_) (fun i j el x h1 h2 => ?_) (by simp) (by simp)
          · rw [hlen] at key; exact key
          all_goals
            rw [List.getElem?_map] at h1
            obtain ⟨c, hc, rfl⟩ := Option.map_eq_some_iff.1 h1
            have hj : j = 0 := by have := (List.getElem?_eq_some_iff.1 h2).1; simp at this; omega
            subst hj
            obtain rfl : c = x := by simpa using h2
            have hi : i < len := by have := (List.getElem?_eq_some_iff.1 hc).1; simp at this; omega
            rw [List.getElem?_take, if_pos hi] at hc
            have hfz := hba.frz hle hc
          · simpa using hfz.1
          · exact hfz.2
      · exact .same h
    · exact .same h
  · exact .same h
theorem T.frzS {P : Program} {ro : Option Nat} {N : Nat} {p : Path} {σ : St} {Q : Post} {c : Code} (t : Nat) (ht : t < N) (h : T P ro N p c (Ax.frzS t σ) Q) : T P ro N p c σ Q := T.frzd (fun _ _ _ _ hR => hR.frzS t ht) h
end
section
open Go Go.Proofs

@[simp] theorem Wo.eta (w : Wo) : Wo.mk w.size w.funcs w.preds = w := rfl
/-! ### Values of variables -/
def envL (env : List Int) : List Int := (List.range 64).map fun i => env.getD i 0
theorem envL_len (env : List Int) : (envL env).length = 64 := by simp [envL]
theorem envL_get (env : List Int) (i : Nat) (h : i < 64) : (envL env)[i]'(by rw [envL_len]; exact h) = env.getD i 0 := by simp [envL]
theorem envL_take (env : List Int) (j : Nat) (h : j < 64) : (envL env).take (j + 1) = (envL env).take j ++ [env.getD j 0] := by
  rw [List.take_add_one, List.getElem?_eq_getElem (by rw [envL_len]; exact h), envL_get env j h]; rfl
@[simp] def gEnv : List V → Option V := f1 (kIs .i64) fun env => some (.sl (encI .i64 (envL env)) .no)
set_option maxHeartbeats 1000000 in
theorem ok_rEnv : PureOk Try.prog 15 gEnv := by
  intro args r h
  obtain ⟨env, rfl, ⟨⟩⟩ := f1_inv h
  clear h
  have hE := (EnvOk.nil (P := Try.prog) (eq := fun _ => false) (own := fun _ => false) (mem := fun _ => false) EqOk.none)
  have hr0 : List.range 0 = [] := rfl
  have hr1 : List.range 1 = [0] := rfl
  refine ⟨⟨Try.f15, Try.func15, by decide, rfl⟩, pure_of_T Try.func15 rfl (by simp [Try.ntmps15]) fun q => ?_⟩
  repeat' (first | (with_reducible refine T.sq fun K hK => ?_) | ((first | ((with_reducible refine T.reg hE ?hd ?_); (case hd => kernel_rfl)) | ((with_reducible refine T.any hE mixed ?hd ?hok ?_); (case hd => kernel_rfl); (case hok => kernel_rfl))); simp [*]; (repeat' (split; all_goals (rename_i hc; try simp [*])))) | ((with_reducible refine T.ret ?_); refine fin_pure ?_; simp [*]; try (change Hold _)) | (with_reducible refine T.block ?_) | ((with_reducible refine T.skip ?_); simp [*]) | ((with_reducible refine T.exit ?_); simp [*]) | ((with_reducible refine T.br fun K1 K2 hK1 hK2 => ?_); simp [*]; try ((refine Br.intro (fun hc => ?_) (fun hc => ?_)) <;> (try simp at hc))) | (with_reducible refine Cont.go (by assumption) _ ?_) | (with_reducible refine Cnt.go (by assumption) ?_))
  refine T.len (t := 0) (els := encI .i64 env) (tk := .no) (by simp [*]) fun hlen => ?_
  rw [encI_length] at hlen
  refine T.loop (fun n σ => ∃ (j : Nat) (w : V), n = 64 - j ∧ σ.get 0 = .sl (encI .i64 env) .no ∧ σ.get 4 = .int .i64 j ∧ σ.get 3 = w ∧ j ≤ 64 ∧ Hold ((j = 0 ∧ w = .sl [] .ex) ∨ (0 < j ∧ ∃ c d, w = .sl (encI .i64 ((envL env).take j)) (.own (c :: d :: q) 1) ∧ σ.K (c :: d :: q) = true))) 64 ⟨0, .sl [] .ex, by simp, by simp, by simp, by simp, by omega, .inl ⟨rfl, rfl⟩⟩ ?_
  rintro n σ ⟨j, w, rfl, g0, g1, g2, g3, g4⟩
  by_cases hj : j < 64
  · have hw : IntKind.i64.wrap ((j : Int) + 1) = (j : Int) + 1 := wrap64 (by omega) (by omega)
    have hw1 : IntKind.i64.wrap 1 = 1 := wrap64 (by omega) (by omega)
    have hji : (j : Int) < 64 := by omega
    have ht := envL_take env j hj
    have hl : ((envL env).take j).length = j := by rw [List.length_take, envL_len]; omega
    have hcap : (j + 1) * 8 ≤ 140737488355328 := by omega
    by_cases hjl : j < env.length
    · have hjli : (j : Int) < (env.length : Int) := by omega
      have hg : env.getD j 0 = env[j] := by simp [List.getD_eq_getElem?_getD, hjl]
      rw [hg] at ht
      have ht2 : Hold ((envL env).take (j + 1) = (envL env).take j ++ [env[j]]) := ht
      clear ht hg
      rcases g4 with ⟨rfl, rfl⟩ | ⟨g5, cc, d, rfl, g6⟩
      · repeat' (first | (with_reducible refine T.sq fun K hK => ?_) | ((first | ((with_reducible refine T.reg hE ?hd ?_); (case hd => kernel_rfl)) | ((with_reducible refine T.any hE mixed ?hd ?hok ?_); (case hd => kernel_rfl); (case hok => kernel_rfl))); simp [*]; (repeat' (split; all_goals (rename_i hc; try simp [*])))) | ((with_reducible refine T.ret ?_); refine fin_pure ?_; simp [*]; try (change Hold _)) | (with_reducible refine T.block ?_) | ((with_reducible refine T.skip ?_); simp [*]) | ((with_reducible refine T.exit ?_); simp [*]) | ((with_reducible refine T.br fun K1 K2 hK1 hK2 => ?_); simp [*]; try ((refine Br.intro (fun hc => ?_) (fun hc => ?_)) <;> (try simp at hc))) | (with_reducible refine Cont.go (by assumption) _ ?_) | (with_reducible refine Cnt.go (by assumption) ?_))
        refine ⟨64 - 1, by omega, 1, rfl, by omega, by omega, ?_⟩
        unfold Hold at *
        rw [ht2]
        exact ⟨by simp, _, _, ⟨rfl, rfl, rfl⟩, .inl ⟨rfl, rfl⟩⟩
      · repeat' (first | (with_reducible refine T.sq fun K hK => ?_) | ((first | ((with_reducible refine T.reg hE ?hd ?_); (case hd => kernel_rfl)) | ((with_reducible refine T.any hE mixed ?hd ?hok ?_); (case hd => kernel_rfl); (case hok => kernel_rfl))); simp [*]; (repeat' (split; all_goals (rename_i hc; try simp [*])))) | ((with_reducible refine T.ret ?_); refine fin_pure ?_; simp [*]; try (change Hold _)) | (with_reducible refine T.block ?_) | ((with_reducible refine T.skip ?_); simp [*]) | ((with_reducible refine T.exit ?_); simp [*]) | ((with_reducible refine T.br fun K1 K2 hK1 hK2 => ?_); simp [*]; try ((refine Br.intro (fun hc => ?_) (fun hc => ?_)) <;> (try simp at hc))) | (with_reducible refine Cont.go (by assumption) _ ?_) | (with_reducible refine Cnt.go (by assumption) ?_))
        refine ⟨64 - (j + 1), by omega, j + 1, rfl, by omega, by omega, ?_⟩
        unfold Hold at *
        rw [ht2]
        exact ⟨by simp, _, _, ⟨encI_snoc _ _ _, rfl, rfl⟩, .inl ⟨rfl, rfl⟩⟩
    · have hjli : ¬ (j : Int) < (env.length : Int) := by omega
      have hg : env.getD j 0 = 0 := by rw [List.getD_eq_getElem?_getD, List.getElem?_eq_none (by omega)]; rfl
      rw [hg] at ht
      have ht2 : Hold ((envL env).take (j + 1) = (envL env).take j ++ [0]) := ht
      clear ht hg
      rcases g4 with ⟨rfl, rfl⟩ | ⟨g5, cc, d, rfl, g6⟩
      · have hjl0 : ¬ (0 : Int) < (env.length : Int) := by omega
        repeat' (first | (with_reducible refine T.sq fun K hK => ?_) | ((first | ((with_reducible refine T.reg hE ?hd ?_); (case hd => kernel_rfl)) | ((with_reducible refine T.any hE mixed ?hd ?hok ?_); (case hd => kernel_rfl); (case hok => kernel_rfl))); simp [*]; (repeat' (split; all_goals (rename_i hc; try simp [*])))) | ((with_reducible refine T.ret ?_); refine fin_pure ?_; simp [*]; try (change Hold _)) | (with_reducible refine T.block ?_) | ((with_reducible refine T.skip ?_); simp [*]) | ((with_reducible refine T.exit ?_); simp [*]) | ((with_reducible refine T.br fun K1 K2 hK1 hK2 => ?_); simp [*]; try ((refine Br.intro (fun hc => ?_) (fun hc => ?_)) <;> (try simp at hc))) | (with_reducible refine Cont.go (by assumption) _ ?_) | (with_reducible refine Cnt.go (by assumption) ?_))
        refine ⟨64 - 1, by omega, 1, rfl, by omega, by omega, ?_⟩
        unfold Hold at *
        rw [ht2]
        exact ⟨by simp, _, _, ⟨rfl, rfl, rfl⟩, .inl ⟨rfl, rfl⟩⟩
      · repeat' (first | (with_reducible refine T.sq fun K hK => ?_) | ((first | ((with_reducible refine T.reg hE ?hd ?_); (case hd => kernel_rfl)) | ((with_reducible refine T.any hE mixed ?hd ?hok ?_); (case hd => kernel_rfl); (case hok => kernel_rfl))); simp [*]; (repeat' (split; all_goals (rename_i hc; try simp [*])))) | ((with_reducible refine T.ret ?_); refine fin_pure ?_; simp [*]; try (change Hold _)) | (with_reducible refine T.block ?_) | ((with_reducible refine T.skip ?_); simp [*]) | ((with_reducible refine T.exit ?_); simp [*]) | ((with_reducible refine T.br fun K1 K2 hK1 hK2 => ?_); simp [*]; try ((refine Br.intro (fun hc => ?_) (fun hc => ?_)) <;> (try simp at hc))) | (with_reducible refine Cont.go (by assumption) _ ?_) | (with_reducible refine Cnt.go (by assumption) ?_))
        refine ⟨64 - (j + 1), by omega, j + 1, rfl, by omega, by omega, ?_⟩
        unfold Hold at *
        rw [ht2]
        exact ⟨by simp, _, _, ⟨encI_snoc _ _ _, rfl, rfl⟩, .inl ⟨rfl, rfl⟩⟩
  · have hj2 : j = 64 := by omega
    subst hj2
    rcases g4 with ⟨g5, rfl⟩ | ⟨g5, cc, d, rfl, g6⟩
    · exact absurd g5 (by omega)
    · have hv : (envL env).take 64 = envL env := List.take_of_length_le (by rw [envL_len]; omega)
      rw [hv] at g2
      clear hv
      repeat' (first | (with_reducible refine T.sq fun K hK => ?_) | ((first | ((with_reducible refine T.reg hE ?hd ?_); (case hd => kernel_rfl)) | ((with_reducible refine T.any hE mixed ?hd ?hok ?_); (case hd => kernel_rfl); (case hok => kernel_rfl))); simp [*]; (repeat' (split; all_goals (rename_i hc; try simp [*])))) | ((with_reducible refine T.ret ?_); refine fin_pure ?_; simp [*]; try (change Hold _)) | (with_reducible refine T.block ?_) | ((with_reducible refine T.skip ?_); simp [*]) | ((with_reducible refine T.exit ?_); simp [*]) | ((with_reducible refine T.br fun K1 K2 hK1 hK2 => ?_); simp [*]; try ((refine Br.intro (fun hc => ?_) (fun hc => ?_)) <;> (try simp at hc))) | (with_reducible refine Cont.go (by assumption) _ ?_) | (with_reducible refine Cnt.go (by assumption) ?_))
def envOk (size : Int) (env : List Int) : Bool := decide (env.length ≤ 64) && valsOk env size
theorem vals_take (l : List Int) (most : Int) (j : Nat) (h : j < l.length) : valsOk (l.take (j + 1)) most = (valsOk (l.take j) most && (decide (0 ≤ l[j]) && decide (l[j] < most))) := all_take_succ l _ j h
theorem vals_bad {l : List Int} {most : Int} {j : Nat} (h : j < l.length) (hb : (decide (0 ≤ l[j]) && decide (l[j] < most)) = false) : valsOk l most = false := List.all_eq_false.2 ⟨l[j], List.getElem_mem h, by simpa using hb⟩
@[simp] def gEnvOk : List V → Option V := f2 (kRw rWo) (kIs .i64) fun w env => some (.bool (envOk w.size env))
/-! ### The value of a term -/
mutual
def ofE (w : Wo) (env : List Int) : Ex → Int
  | .mk k i l => if k = 1 then env.getD i.toNat 0 else lookV w.funcs w.size i (ofL w env l)
def ofL (w : Wo) (env : List Int) : List Ex → List Int
  | [] => []
  | e :: l => ofE w env e :: ofL w env l
end
theorem ofL_map (w : Wo) (env : List Int) : ∀ l, ofL w env l = l.map (ofE w env)
  | [] => by rw [ofL]; rfl
  | e :: l => by rw [ofL, ofL_map w env l]; rfl
theorem ofE_eq (w : Wo) (env : List Int) (e : Ex) : ofE w env e = if e.k = 1 then env.getD e.i.toNat 0 else lookV w.funcs w.size e.i (ofL w env e.kids) := by cases e; rw [ofE]; rfl
theorem ofL_len (w : Wo) (env : List Int) (l : List Ex) : (ofL w env l).length = l.length := by rw [ofL_map]; simp
theorem ofL_take (w : Wo) (env : List Int) (l : List Ex) (j : Nat) (h : j < l.length) : (ofL w env l).take (j + 1) = (ofL w env l).take j ++ [ofE w env l[j]] := by
  rw [List.take_add_one, ofL_map]; simp [h]
/-- A world that may be, and values of its things. -/
def envR (w : Wo) (env : List Int) : Prop := worldE w = 0 ∧ env.length = 64 ∧ ∀ v ∈ env, 0 ≤ v ∧ v < w.size
theorem world_of {w : Wo} (h : worldE w = 0) : (1 ≤ w.size ∧ w.size ≤ 3) ∧ tbsOk w.funcs w.size w.size = true ∧ tbsOk w.preds w.size 2 = true := by
  unfold worldE at h
  split at h
  · rename_i c
    simp only [Bool.and_eq_true, decide_eq_true_eq] at c
    exact ⟨⟨c.1.1.1, c.1.1.2⟩, c.1.2, c.2⟩
  · cases h
theorem fdT_mem : ∀ (l : List Tb) (id : Int) (n : Nat) (t : Tb), fdT l id n = some t → ∃ j, ∃ h : j < l.length, l[j] = t
  | [], _, _, _, h => by cases h
  | a :: l, id, n, t, h => by
    rw [fdT] at h
    split at h
    · cases h; exact ⟨0, by simp, rfl⟩
    · obtain ⟨j, hj, e⟩ := fdT_mem l id n t h
      exact ⟨j + 1, by simp; omega, by simpa using e⟩
theorem look_range {l : List Tb} {size most id : Int} {zs : List Int} (h : tbsOk l size most = true) (hm : 1 ≤ most) : 0 ≤ lookV l size id zs ∧ lookV l size id zs < most := by
  unfold lookV
  split
  · rename_i t ht
    obtain ⟨j, hj, rfl⟩ := fdT_mem l id _ _ ht
    have h1 := (tb_at h j hj).1
    unfold tbOk at h1
    simp only [Bool.and_eq_true] at h1
    have h2 := List.all_eq_true.1 h1.2
    generalize (atN size zs).toNat = z
    by_cases hz : z < l[j].vals.length
    · have h3 := h2 _ (List.getElem_mem hz)
      simp only [Bool.and_eq_true, decide_eq_true_eq] at h3
      simpa [List.getD_eq_getElem?_getD, hz] using h3
    · rw [List.getD_eq_getElem?_getD, List.getElem?_eq_none (by omega)]
      exact ⟨Int.le_refl _, by simpa using (show (0 : Int) < most by omega)⟩
  · exact ⟨Int.le_refl _, by omega⟩
theorem of_range {w : Wo} {env : List Int} (h : envR w env) (e : Ex) : 0 ≤ ofE w env e ∧ ofE w env e < w.size := by
  obtain ⟨h1, h2, h3⟩ := h
  obtain ⟨⟨s1, s2⟩, hf, _⟩ := world_of h1
  rw [ofE_eq]
  split
  · by_cases hi : e.i.toNat < env.length
    · rw [List.getD_eq_getElem?_getD, List.getElem?_eq_getElem hi]; exact h3 _ (List.getElem_mem hi)
    · rw [List.getD_eq_getElem?_getD, List.getElem?_eq_none (by omega)]; exact ⟨Int.le_refl _, by simpa using (show (0 : Int) < w.size by omega)⟩
  · exact look_range hf s1
theorem ok_args {w : Wo} {env : List Int} (h : envR w env) {e : Ex} (he : allX e = true) : okLook w.funcs w.size (ofL w env e.kids) := by
  refine ⟨(world_of h.1).1, ⟨_, (world_of h.1).2.1⟩, by rw [ofL_len]; exact kids_four he, fun a ha => ?_⟩
  rw [ofL_map] at ha
  obtain ⟨x, _, rfl⟩ := List.mem_map.1 ha
  exact of_range h x
def okOfx (w : Wo) (e : Ex) (env : List Int) : Prop := envR w env ∧ allX e = true
noncomputable instance (w : Wo) (e : Ex) (env : List Int) : Decidable (okOfx w e env) := Classical.propDecidable _
@[simp] noncomputable def gOfx : List V → Option V := f3 (kRw rWo) kE (kIs .i64) fun w e env => if okOfx w e env then some (.int .i64 (ofE w env e)) else none
theorem recm {P : Program} {f : FuncId} {β γ : Type} {B : Kd β} {C : Kd γ} {F : β → Ex → γ → Option V} (h : ∀ e, PureOk P f (f3 B kE C fun b x c => if SizeOf.sizeOf x < SizeOf.sizeOf e then F b x c else none) → ∀ b c r, F b e c = some r → Okat P f [B.enc b, enc e, C.enc c] r) : PureOk P f (f3 B kE C F) := by
  have main : ∀ (n : Nat) (e : Ex), SizeOf.sizeOf e < n → ∀ b c r, F b e c = some r → Okat P f [B.enc b, enc e, C.enc c] r := by
    intro n
    induction n with
    | zero => intro e he; omega
    | succ n ih =>
      intro e he b c r hr
      refine h e (fun args r h1 => ?_) b c r hr
      obtain ⟨b, x, c, rfl, h2⟩ := f3_inv h1
      split at h2
      · rename_i hlt; exact ih x (by omega) b c r h2
      · cases h2
  intro args r h1
  obtain ⟨b, x, c, rfl, h2⟩ := f3_inv h1
  exact main _ x (Nat.lt_succ_self _) b c r h2
set_option maxHeartbeats 1000000 in
theorem ok_rOf : PureOk Try.prog 49 gOfx := by
  refine recm fun e ih w env r hr => ?_
  split at hr
  · rename_i hm
    obtain ⟨hen, hx⟩ := hm
    cases hr
    have hE := (((EnvOk.nil (P := Try.prog) (eq := fun _ => false) (own := fun _ => false) (mem := fun _ => false) EqOk.none).addf ok_rLook).addf ih)
    refine ⟨⟨Try.f49, Try.func49, by decide, rfl⟩, pure_of_T Try.func49 rfl (by simp [Try.ntmps49]) fun q => ?_⟩
    have he := ofE_eq w env e
    by_cases c1 : e.k = 1
    · have hv := shaped_var hx (.inl c1)
      rw [if_pos c1] at he
      have hl := hen.2.1
      obtain ⟨m, hm⟩ := Int.eq_ofNat_of_zero_le hv.1
      have hml : m < env.length := by omega
      have hm64 : m < 64 := by omega
      have hmi : (m : Int) < 64 := by omega
      have he2 : Hold (ofE w env e = env[m]) := by unfold Hold; rw [he, hm]; simp [List.getD_eq_getElem?_getD, hml]
      clear he
      repeat' (first | (with_reducible refine T.sq fun K hK => ?_) | ((first | ((with_reducible refine T.reg hE ?hd ?_); (case hd => kernel_rfl)) | ((with_reducible refine T.any hE mixed ?hd ?hok ?_); (case hd => kernel_rfl); (case hok => kernel_rfl))); simp [*]; (repeat' (split; all_goals (rename_i hc; try simp [*])))) | ((with_reducible refine T.ret ?_); refine fin_pure ?_; simp [*]; try (change Hold _)) | (with_reducible refine T.block ?_) | ((with_reducible refine T.skip ?_); simp [*]) | ((with_reducible refine T.exit ?_); simp [*]) | ((with_reducible refine T.br fun K1 K2 hK1 hK2 => ?_); simp [*]; try ((refine Br.intro (fun hc => ?_) (fun hc => ?_)) <;> (try simp at hc))) | (with_reducible refine Cont.go (by assumption) _ ?_) | (with_reducible refine Cnt.go (by assumption) ?_))
      all_goals (unfold Hold at *; rw [he2])
    rw [if_neg c1] at he
    have hk4 := kids_four hx
    have hoa := ok_args hen hx
    have hokk : ∀ (j : Nat) (hj : j < e.kids.length), okOfx w e.kids[j] env := fun j hj => ⟨hen, allX_kid hx j hj⟩
    have hr0 : List.range 0 = [] := rfl
    have hr1 : List.range 1 = [0] := rfl
    have he2 : Hold (ofE w env e = lookV w.funcs w.size e.i (ofL w env e.kids)) := he
    clear he
    repeat' (first | (with_reducible refine T.sq fun K hK => ?_) | ((first | ((with_reducible refine T.reg hE ?hd ?_); (case hd => kernel_rfl)) | ((with_reducible refine T.any hE mixed ?hd ?hok ?_); (case hd => kernel_rfl); (case hok => kernel_rfl))); simp [*]; (repeat' (split; all_goals (rename_i hc; try simp [*])))) | ((with_reducible refine T.ret ?_); refine fin_pure ?_; simp [*]; try (change Hold _)) | (with_reducible refine T.block ?_) | ((with_reducible refine T.skip ?_); simp [*]) | ((with_reducible refine T.exit ?_); simp [*]) | ((with_reducible refine T.br fun K1 K2 hK1 hK2 => ?_); simp [*]; try ((refine Br.intro (fun hc => ?_) (fun hc => ?_)) <;> (try simp at hc))) | (with_reducible refine Cont.go (by assumption) _ ?_) | (with_reducible refine Cnt.go (by assumption) ?_))
    refine T.loop (fun n σ => ∃ (j : Nat) (v : V), n = e.kids.length - j ∧ σ.get 2 = .sl (encI .i64 env) .no ∧ σ.get 3 = .ptr (0 :: 5 :: q) 0 ∧ σ.get 4 = .ptr (0 :: 6 :: q) 0 ∧ σ.M (0 :: 5 :: q) = some (.cells (rWo.enc w)) ∧ σ.M (0 :: 6 :: q) = some (.cells (encC e)) ∧ σ.get 21 = .sl (encL e.kids) .no ∧ σ.get 22 = .int .i64 e.kids.length ∧ σ.get 23 = .int .i64 j ∧ σ.get 7 = v ∧ j ≤ e.kids.length ∧ Hold ((j = 0 ∧ v = .sl [] .ex) ∨ (0 < j ∧ ∃ c d, v = .sl (encI .i64 ((ofL w env e.kids).take j)) (.own (c :: d :: q) 1) ∧ σ.K (c :: d :: q) = true))) e.kids.length ⟨0, .sl [] .ex, by simp [*, encC_eq, Hold]⟩ ?_
    rintro n σ ⟨j, v, rfl, g0, g1, g2, m1, m2, g3, g4, g5, g6, g7, g8⟩
    rw [rWo_enc] at m1
    rw [encC_eq] at m2
    have hll := ofL_len w env e.kids
    by_cases hj : j < e.kids.length
    · have hw : IntKind.i64.wrap ((j : Int) + 1) = (j : Int) + 1 := wrap64 (by omega) (by omega)
      have hw1 : IntKind.i64.wrap 1 = 1 := wrap64 (by omega) (by omega)
      have hs := ex_kid_lt e j hj
      have hok := hokk j hj
      have ht2 : Hold ((ofL w env e.kids).take (j + 1) = (ofL w env e.kids).take j ++ [ofE w env e.kids[j]]) := ofL_take w env e.kids j hj
      have hl : ((ofL w env e.kids).take j).length = j := by rw [List.length_take, hll]; omega
      have hcap : (j + 1) * 8 ≤ 140737488355328 := by omega
      rcases g8 with ⟨rfl, rfl⟩ | ⟨g8, cc, d, rfl, g9⟩
      · repeat' (first | (with_reducible refine T.sq fun K hK => ?_) | ((first | ((with_reducible refine T.reg hE ?hd ?_); (case hd => kernel_rfl)) | ((with_reducible refine T.any hE mixed ?hd ?hok ?_); (case hd => kernel_rfl); (case hok => kernel_rfl))); simp [*]; (repeat' (split; all_goals (rename_i hc; try simp [*])))) | ((with_reducible refine T.ret ?_); refine fin_pure ?_; simp [*]; try (change Hold _)) | (with_reducible refine T.block ?_) | ((with_reducible refine T.skip ?_); simp [*]) | ((with_reducible refine T.exit ?_); simp [*]) | ((with_reducible refine T.br fun K1 K2 hK1 hK2 => ?_); simp [*]; try ((refine Br.intro (fun hc => ?_) (fun hc => ?_)) <;> (try simp at hc))) | (with_reducible refine Cont.go (by assumption) _ ?_) | (with_reducible refine Cnt.go (by assumption) ?_))
        refine ⟨e.kids.length - 1, by omega, 1, rfl, by simp [encC_eq], by omega, by omega, ?_⟩
        unfold Hold at *
        rw [ht2]
        exact ⟨by simp, _, _, ⟨rfl, rfl, rfl⟩, .inl ⟨rfl, rfl⟩⟩
      · repeat' (first | (with_reducible refine T.sq fun K hK => ?_) | ((first | ((with_reducible refine T.reg hE ?hd ?_); (case hd => kernel_rfl)) | ((with_reducible refine T.any hE mixed ?hd ?hok ?_); (case hd => kernel_rfl); (case hok => kernel_rfl))); simp [*]; (repeat' (split; all_goals (rename_i hc; try simp [*])))) | ((with_reducible refine T.ret ?_); refine fin_pure ?_; simp [*]; try (change Hold _)) | (with_reducible refine T.block ?_) | ((with_reducible refine T.skip ?_); simp [*]) | ((with_reducible refine T.exit ?_); simp [*]) | ((with_reducible refine T.br fun K1 K2 hK1 hK2 => ?_); simp [*]; try ((refine Br.intro (fun hc => ?_) (fun hc => ?_)) <;> (try simp at hc))) | (with_reducible refine Cont.go (by assumption) _ ?_) | (with_reducible refine Cnt.go (by assumption) ?_))
        refine ⟨e.kids.length - (j + 1), by omega, j + 1, rfl, by simp [encC_eq], by omega, by omega, ?_⟩
        unfold Hold at *
        rw [ht2]
        exact ⟨by simp, _, _, ⟨encI_snoc _ _ _, rfl, rfl⟩, .inl ⟨rfl, rfl⟩⟩
    · have w8 : j = e.kids.length := by omega
      rcases g8 with ⟨g8, rfl⟩ | ⟨g8, cc, d, rfl, g9⟩
      · have h0 : ofL w env e.kids = [] := List.eq_nil_of_length_eq_zero (by rw [hll]; omega)
        rw [h0] at hoa he2
        have hd0 : decI .i64 [] = some [] := rfl
        clear hll h0
        repeat' (first | (with_reducible refine T.sq fun K hK => ?_) | ((first | ((with_reducible refine T.reg hE ?hd ?_); (case hd => kernel_rfl)) | ((with_reducible refine T.any hE mixed ?hd ?hok ?_); (case hd => kernel_rfl); (case hok => kernel_rfl))); simp [*]; (repeat' (split; all_goals (rename_i hc; try simp [*])))) | ((with_reducible refine T.ret ?_); refine fin_pure ?_; simp [*]; try (change Hold _)) | (with_reducible refine T.block ?_) | ((with_reducible refine T.skip ?_); simp [*]) | ((with_reducible refine T.exit ?_); simp [*]) | ((with_reducible refine T.br fun K1 K2 hK1 hK2 => ?_); simp [*]; try ((refine Br.intro (fun hc => ?_) (fun hc => ?_)) <;> (try simp at hc))) | (with_reducible refine Cont.go (by assumption) _ ?_) | (with_reducible refine Cnt.go (by assumption) ?_))
        all_goals (unfold Hold at *; rw [he2])
      · have h0 : (ofL w env e.kids).take j = ofL w env e.kids := List.take_of_length_le (by rw [hll]; omega)
        rw [h0] at g6
        clear h0 hll
        repeat' (first | (with_reducible refine T.sq fun K hK => ?_) | ((first | ((with_reducible refine T.reg hE ?hd ?_); (case hd => kernel_rfl)) | ((with_reducible refine T.any hE mixed ?hd ?hok ?_); (case hd => kernel_rfl); (case hok => kernel_rfl))); simp [*]; (repeat' (split; all_goals (rename_i hc; try simp [*])))) | ((with_reducible refine T.ret ?_); refine fin_pure ?_; simp [*]; try (change Hold _)) | (with_reducible refine T.block ?_) | ((with_reducible refine T.skip ?_); simp [*]) | ((with_reducible refine T.exit ?_); simp [*]) | ((with_reducible refine T.br fun K1 K2 hK1 hK2 => ?_); simp [*]; try ((refine Br.intro (fun hc => ?_) (fun hc => ?_)) <;> (try simp at hc))) | (with_reducible refine Cont.go (by assumption) _ ?_) | (with_reducible refine Cnt.go (by assumption) ?_))
        all_goals (unfold Hold at *; rw [he2])
  · cases hr
end
end Go.Proofs.Ytaacfmakfkaddaa.Ax
