/- Abstract execution, part O: a range over a function. -/
import Derived.Test.YtiippmhlkcbjmaaAxN
set_option linter.unusedVariables false
set_option linter.unusedSimpArgs false
namespace Go.Proofs.Ytiippmhlkcbjmaa.Ax
open Go Go.RowKit

abbrev FX := Nat → Nat → Option Value
def gh (F : FX) : Ghost := ⟨F, fun _ => none, fun _ => none⟩
theorem gh_le {F : FX} {G : Ghost} (h : ∀ b o v, F b o = some v → G.fx b o = some v) : (gh F).le G := ⟨h, fun _ _ h => (by cases h), fun _ _ h => (by cases h)⟩
/-- An iterator hands on these, one behind the other, till it is told to stop; it writes nothing that there was. F: the cells that stay as they are, its own with them. -/
def IterOk (P : Program) (f : FuncId) (caps : List V) (xs : List (List V)) : Prop :=
  Callable P f ∧ ∀ (l : Nat) (J : Option Nat → FX → World → Prop),
    (∀ k F w, J k F w → ∀ b o v, F b o = some v → w.cell? ⟨b, o, none⟩ = some v) →
    (∀ k F w F' w', J k F w → Below w.heap.size w w' → (∀ b o, b < w.heap.size → F' b o = F b o) → (∀ b o v, F' b o = some v → w'.cell? ⟨b, o, none⟩ = some v) → J k F' w') →
    (∀ n x F w argsC, xs[n]? = some x → J (some n) F w → RepL (gh F) argsC x → YieldAt (Fr none) 0 P l argsC.toArray w fun e w' => (e = .returned (.bool true) ∧ J (some (n + 1)) F w') ∨ (e = .returned (.bool false) ∧ J none F w')) →
    ∀ F w capsC, RepL (gh F) capsC caps → J (some 0) F w → CallsIn (Fr none) 0 P f (#[.func (.yield l) #[] #[]] ++ capsC.toArray) w fun e w' => (∃ v, e = .returned v) ∧ ∃ F', J (some xs.length) F' w' ∨ J none F' w'

section
variable {P : Program} {E : Env} {ro : Option Nat} {N : Nat} {p : Path} {σ : St} {Q : Post}

theorem Sim.keep {G : Ghost} {M : Mem} {K : Toks} {w w' : World} (h : Sim G M K w) (b : Below w.heap.size w w') : Sim G M K w' := by
  refine ⟨fun k o v hf => ?_, fun id cs hm => ?_, h.mp, h.inj, fun t hk => ?_, h.tinj⟩
  · have h1 := h.fx k o v hf
    exact (World.cell?_of_block (b.block k (cell_lt h1))).trans h1
  · obtain ⟨k, arr, T, hl, hh, hr, hf⟩ := h.box id cs hm
    exact ⟨k, arr, T, hl, (b.block k (lt_of_heap hh)).trans hh, hr, hf⟩
  · obtain ⟨g, cap, s, n, arr, T, htl, hh, ha, hn, hx, hb⟩ := h.tok t hk
    exact ⟨g, cap, s, n, arr, T, htl, (b.block g (lt_of_heap hh)).trans hh, ha, hn, hx, hb⟩
theorem Tr.keep {G0 G : Ghost} {M0 M : Mem} {K0 K : Toks} {w0 w w' : World} (h : Tr p G0 M0 K0 w0 G M K w) (b : Below w.heap.size w w') : Tr p G0 M0 K0 w0 G M K w' :=
  ⟨h.le, h.fr, b.os.trans h.up.os, b.tape.trans h.up.tape, b.output.trans h.up.output, Nat.le_trans h.up.size b.size, fun k hk hn => (b.block k (Nat.lt_of_lt_of_le hk h.up.size)).trans (h.up.keep k hk hn), h.up.wr, h.up.fxs⟩
theorem Rel.keep {ds : List Deferred} {G : Ghost} {a : Act} {w w' : World} (h : Rel N p ds G σ a w) (b : Below w.heap.size w w') : Rel N p ds G σ a w' :=
  ⟨h.n, h.tm, h.rng, h.df, h.sim.keep b, h.fr, h.hid⟩
theorem keep_obj {w w' : World} (b : Below w.heap.size w w') {k : Nat} {o : Obj} (h : w.heap[k]? = some o) : w'.heap[k]? = some o := (b.block k (lt_of_heap h)).trans h

def St.args (N : Nat) (σ : St) : List Tmp → List V → St
  | t :: ts, v :: vs => St.args N (σ.put N (some t) v) ts vs
  | _, _ => σ
def St.back (σ' σ : St) : St := { σ' with get := σ.get }
/-- A round's end. -/
def rq (σ : St) (I : St → Prop) (Q : Post) : Post
  | .normal, σ' => I (σ'.back σ)
  | .ret, σ' => Q .ret (σ'.back σ)
  | .exit id, σ' => Q (.exit id) (σ'.back σ)
  | _, _ => False
theorem Rel.args {ds : List Deferred} {G : Ghost} {w : World} : ∀ (ts : List Tmp) (vs : List V) (vsC : List Value) (σ : St) (a : Act), Rel N p ds G σ a w → RepL G vsC vs →
    Rel N p ds G (σ.args N ts vs) { a with tmps := (ts.zip vsC).foldl (fun t (p, v) => t.setIfInBounds p v) a.tmps } w
  | [], vs, vsC, σ, a, hR, h => by cases vs <;> exact hR
  | t :: ts, [], vsC, σ, a, hR, h => by
    have : vsC = [] := by have := h.1; simpa using this
    subst this; exact hR
  | t :: ts, v :: vs, vsC, σ, a, hR, h => by
    cases vsC with
    | nil => have := h.1; simp at this
    | cons vC vsC =>
      have h1 : Rep G vC v := h.2 0 vC v rfl rfl
      have h2 : RepL G vsC vs := ⟨by have := h.1; simpa using this, fun i x y hx hy => h.2 (i + 1) x y (by simpa using hx) (by simpa using hy)⟩
      exact Rel.args ts vs vsC _ _ (hR.put h1 (some t)) h2
theorem Rel.back {ds ds2 : List Deferred} {G G2 : Ghost} {a a2 : Act} {w w2 : World} {σ2 : St} (h : Rel N p ds G σ a w) (h2 : Rel N p ds2 G2 σ2 a2 w2) (hle : G.le G2) (ds3 : List Deferred) : Rel N p ds3 G2 (σ2.back σ) { a with defers := ds3 } w2 :=
  ⟨h.n, fun t v hv => (h.tm t v hv).mono hle, h.rng, rfl, h2.sim, h2.fr, h2.hid⟩
@[simp] theorem back_M (σ' σ : St) : (σ'.back σ).M = σ'.M := rfl
@[simp] theorem back_K (σ' σ : St) : (σ'.back σ).K = σ'.K := rfl
@[simp] theorem back_get (σ' σ : St) : (σ'.back σ).get = σ.get := rfl
@[simp] theorem back_cnt (σ' σ : St) : (σ'.back σ).cnt = σ'.cnt := rfl
attribute [simp] rq St.args
theorem args_M : ∀ (ts : List Tmp) (vs : List V) (σ : St), (σ.args N ts vs).M = σ.M
  | [], vs, σ => by cases vs <;> rfl
  | t :: ts, [], σ => rfl
  | t :: ts, v :: vs, σ => by rw [St.args, args_M ts vs, put_M]
theorem args_K : ∀ (ts : List Tmp) (vs : List V) (σ : St), (σ.args N ts vs).K = σ.K
  | [], vs, σ => by cases vs <;> rfl
  | t :: ts, [], σ => rfl
  | t :: ts, v :: vs, σ => by rw [St.args, args_K ts vs, put_K]

/-- More cells that stay. -/
def Ghost.more (G : Ghost) (n : Nat) (F : FX) : Ghost := { G with fx := fun b o => if b < n then G.fx b o else F b o }
theorem Ghost.more_le {G : Ghost} {M : Mem} {K : Toks} {w : World} (h : Sim G M K w) (F : FX) : G.le (G.more w.heap.size F) :=
  ⟨fun b o v hv => by simp only [Ghost.more]; rw [if_pos (cell_lt (h.fx b o v hv))]; exact hv, fun _ _ h => h, fun _ _ h => h⟩
theorem Sim.more {G : Ghost} {M : Mem} {K : Toks} {w w' : World} (h : Sim G M K w) (b : Below w.heap.size w w') {F : FX} (hF : ∀ b o v, F b o = some v → w'.cell? ⟨b, o, none⟩ = some v) : Sim (G.more w.heap.size F) M K w' := by
  have hk := h.keep b
  have hle := Ghost.more_le h F
  refine ⟨fun k o v hf => ?_, fun id cs hm => ?_, h.mp, h.inj, fun t hk2 => ?_, h.tinj⟩
  · simp only [Ghost.more] at hf
    split at hf
    · exact hk.fx k o v hf
    · exact hF k o v hf
  · obtain ⟨k, arr, T, hl, hh, hr, hf⟩ := h.box id cs hm
    exact ⟨k, arr, T, hl, (b.block k (lt_of_heap hh)).trans hh, hr.mono hle, fun o => by simp only [Ghost.more]; rw [if_pos (lt_of_heap hh)]; exact hf o⟩
  · obtain ⟨g, cap, s, n, arr, T, htl, hh, ha, hn, hx, hb⟩ := h.tok t hk2
    exact ⟨g, cap, s, n, arr, T, htl, (b.block g (lt_of_heap hh)).trans hh, ha, hn, fun o ho => by simp only [Ghost.more]; rw [if_pos (lt_of_heap hh)]; exact hx o ho, hb⟩
theorem Rel.more {ds : List Deferred} {G : Ghost} {a : Act} {w w' : World} (h : Rel N p ds G σ a w) (b : Below w.heap.size w w') {F : FX} (hF : ∀ b o v, F b o = some v → w'.cell? ⟨b, o, none⟩ = some v) : Rel N p ds (G.more w.heap.size F) σ a w' :=
  ⟨h.n, fun t v hv => (h.tm t v hv).mono (Ghost.more_le h.sim F), h.rng, h.df, h.sim.more b hF, h.fr, h.hid⟩
theorem Tr.more {G0 G : Ghost} {M0 M : Mem} {K0 K : Toks} {w0 w w' : World} (h : Tr p G0 M0 K0 w0 G M K w) (hs : Sim G M K w) (b : Below w.heap.size w w') (F : FX) : Tr p G0 M0 K0 w0 (G.more w.heap.size F) M K w' :=
  have hk := h.keep b
  ⟨h.le.trans (Ghost.more_le hs F), h.fr, hk.up.os, hk.up.tape, hk.up.output, hk.up.size, hk.up.keep, h.up.wr, fun k o hk2 hn => by
    simp only [Ghost.more]; rw [if_pos (Nat.lt_of_lt_of_le hk2 h.up.size)]; exact h.up.fxs k o hk2 hn⟩
theorem more_sub {F F' : FX} {G : Ghost} {w : World} (h : ∀ b o v, F b o = some v → G.fx b o = some v) (he : ∀ b o, b < w.heap.size → F' b o = F b o) : ∀ b o v, F' b o = some v → (G.more w.heap.size F').fx b o = some v := fun b o v hv => by
  simp only [Ghost.more]
  split
  · rename_i hb; rw [he b o hb] at hv; exact h b o v hv
  · exact hv

/-- **A range over a function.** -/
theorem T.range {g : Operand} {ps : Array Tmp} {assign body : Code} {gf : FuncId} {caps : List V} {xs : List (List V)} (hg : σ.ev g = .fn gf caps) (hI : IterOk P gf caps xs) (hcp : ∀ (G : Ghost) (cC : List Value), RepL G cC caps → RepL (gh G.fx) cC caps) (hps : ∀ x ∈ xs, x.length = ps.size) (I : Nat → St → Prop) (h0 : I 0 σ)
    (hb : ∀ l n x σ', xs[n]? = some x → I n σ' → σ'.get = σ.get → T P (some l) N p assign (σ'.args N ps.toList x) (nx (fun σ2 => T P (some l) N p body σ2 (rq σ (I (n + 1)) Q)) (fun _ _ => False)))
    (hd : ∀ σ', I xs.length σ' → σ'.get = σ.get → Q .normal σ') : T P none N p (.rangeFunc g ps assign body) σ Q := by
  intro ds G a w hR
  have hgC : ∃ capsC, a.eval g = .func (.func gf) #[] capsC ∧ RepL G capsC.toList caps := by
    have := hR.eval g; rw [hg] at this; exact rep_fn_inv this
  obtain ⟨capsC, hgC, hcaps⟩ := hgC
  refine wpIn_rangeFunc ?_
  intro fn hfn
  show ∃ l mark w₁ d w₁' f args w₂, (Instr.enterLoop fn a.tmps ps assign body none).run P w = .ok (l, mark) w₁ ∧ _
  obtain ⟨rec, hrec⟩ : ∃ rec : LoopState → Option Code → Loop, rec = fun st pe => { state := st, pending := pe, fn, tmps := a.tmps, params := ps, assign, body, defers := w.heap.size } := ⟨_, rfl⟩
  obtain ⟨W1, hW1⟩ : ∃ W1, (w.alloc (.deferred (some []))).alloc (.loop (rec .ready none)) = W1 := ⟨_, rfl⟩
  have hL1 : W1.heap[w.heap.size + 1]? = some (.loop (rec .ready none)) := by
    rw [← hW1]; have := World.alloc_heap_new (w.alloc (.deferred (some []))) (.loop (rec .ready none)); rwa [World.size_alloc] at this
  have hK1 : W1.heap[w.heap.size]? = some (.deferred (some [])) := by
    rw [← hW1]; exact (Below.heap_alloc _ _ _ (by simp)).trans (World.alloc_heap_new w _)
  have hb1 : Below w.heap.size w W1 := by
    rw [← hW1]; exact ((Below.refl _ w).alloc (Nat.le_refl _) _).alloc (by simp) _
  let J : Option Nat → FX → World → Prop
    | some n, F, W => ∃ G' σ', (∀ b o v, F b o = some v → G'.fx b o = some v) ∧ Tr p G σ.M σ.K w G' σ'.M σ'.K W ∧ σ'.get = σ.get ∧ Rel N p [] G' σ' { a with defers := [] } W ∧ I n σ' ∧ W.heap[w.heap.size + 1]? = some (.loop (rec .ready none)) ∧ W.heap[w.heap.size]? = some (.deferred (some []))
    | none, F, W => ∃ G' σ' e c, (∀ b o v, F b o = some v → G'.fx b o = some v) ∧ Tr p G σ.M σ.K w G' σ'.M σ'.K W ∧ σ'.get = σ.get ∧ Rel N p [] G' σ' { a with defers := [] } W ∧ Q e σ' ∧ ((e = .ret ∧ c = Code.ret) ∨ ∃ id, e = .exit id ∧ c = .exit id) ∧ W.heap[w.heap.size + 1]? = some (.loop (rec .done (some c))) ∧ W.heap[w.heap.size]? = some (.deferred (some []))
  have hR0 : Rel N p [] G σ { a with defers := [] } w := ⟨hR.n, hR.tm, hR.rng, rfl, hR.sim, hR.fr, hR.hid⟩
  refine ⟨w.heap.size + 1, [{ target := .collected w.heap.size, args := #[] }], W1, { target := .fn (.func gf) capsC, args := #[.func (.yield (w.heap.size + 1)) #[] #[]] }, W1, gf,
    #[.func (.yield (w.heap.size + 1)) #[] #[]] ++ capsC, W1, ?_, ?_, fun _ _ => trivial, ?_, fun h => by simp [Fr, Fence.wide] at h, ?_⟩
  · rw [← hW1, hrec]; exact run_enterLoop_outer _ _ _ _ _
  · simp only [resolve, hgC]
    simp [go_sem]
  · have := run_callFunc hI.1 (#[.func (.yield (w.heap.size + 1)) #[] #[]] ++ capsC) W1
    simp [invoke, go_sem] at this ⊢
    exact this
  · refine CallsIn.mono (hI.2 (w.heap.size + 1) J ?_ ?_ ?_ G.fx W1 capsC.toList (hcp G _ hcaps) ?_) ?_
    · intro k F W hJ b o v hf
      cases k with
      | some n => obtain ⟨G', σ', hF, _, _, hR', _⟩ := hJ; exact hR'.sim.fx b o v (hF b o v hf)
      | none => obtain ⟨G', σ', e, c, hF, _, _, hR', _⟩ := hJ; exact hR'.sim.fx b o v (hF b o v hf)
    · intro k F W F' W' hJ hB he ht
      cases k with
      | some n =>
        obtain ⟨G', σ', hF, htr, hg', hR', hi, hl, hk⟩ := hJ
        exact ⟨_, σ', more_sub hF he, htr.more hR'.sim hB F', hg', hR'.more hB ht, hi, keep_obj hB hl, keep_obj hB hk⟩
      | none =>
        obtain ⟨G', σ', e, c, hF, htr, hg', hR', hq, hc, hl, hk⟩ := hJ
        exact ⟨_, σ', e, c, more_sub hF he, htr.more hR'.sim hB F', hg', hR'.more hB ht, hq, hc, keep_obj hB hl, keep_obj hB hk⟩
    · rintro n x F W argsC hx ⟨G', σ', hF, ht, hg', hR', hi, hl, hk⟩ hargs
      have hy := run_yield (P := P) (args := argsC.toArray) hl (by rw [hrec]; have := hps x (List.mem_of_getElem? hx); simp [hargs.1, this])
      rw [hrec] at hy
      refine ⟨fn, _, assign, body, hy, roundIn_of_wpIn hfn ?_⟩
      have hT := hb (w.heap.size + 1) n x σ' hx hi hg'
      have hRa := Rel.args ps.toList x argsC σ' _ hR' (hargs.mono (gh_le hF))
      have e1 : (ps.zip argsC.toArray).foldl (fun t (p, v) => t.setIfInBounds p v) a.tmps = (ps.toList.zip argsC).foldl (fun t (p, v) => t.setIfInBounds p v) a.tmps := by
        rw [← Array.foldl_toList, Array.toList_zip]
      rw [e1]
      refine wpIn_mono (hT [] G' _ W hRa) ?_
      rintro e a2 W2 ⟨ds2, G2, σ2, _, ht2, hR2, hq2⟩
      rw [args_M, args_K] at ht2
      have hsimW : Sim G' σ'.M σ'.K W := hR'.sim
      have hl2 := keep_others hsimW ht2 _ _ hl rfl
      have hk2 := keep_others hsimW ht2 _ _ hk rfl
      cases e with
      | normal =>
        refine ⟨_, run_beginRound hl2 (by rw [hrec]), ?_⟩
        have hR3 := hR2.putObj hl2 rfl (.loop { rec .ready none with state := .busy })
        refine wpIn_mono (hq2 _ G2 a2 _ hR3) ?_
        have hl3 : (W2.putObj (w.heap.size + 1) (.loop { rec .ready none with state := .busy })).heap[w.heap.size + 1]? = some (.loop { rec .ready none with state := .busy }) := World.putObj_heap_same (lt_of_heap hl2)
        have hk3 : (W2.putObj (w.heap.size + 1) (.loop { rec .ready none with state := .busy })).heap[w.heap.size]? = some (.deferred (some [])) := (World.putObj_heap_other (by omega)).trans hk2
        rintro e a4 W4 ⟨ds4, G4, σ4, _, ht4, hR4, hq4⟩
        have hl4 := keep_others hR3.sim ht4 _ _ hl3 rfl
        have hk4 := keep_others hR3.sim ht4 _ _ hk3 rfl
        have htt : Tr p G σ.M σ.K w G4 σ4.M σ4.K W4 := ((ht.trans ht2).putObj (by omega) _).trans ht4
        have hRb := Rel.back hR0 hR4 htt.le []
        have fin : ∀ (jump : Option Code), (Instr.endRound (w.heap.size + 1) jump).run P W4 = .ok (.bool jump.isNone) (W4.putObj (w.heap.size + 1) (.loop (rec (if jump.isNone then .ready else .done) jump))) ∧
            (W4.putObj (w.heap.size + 1) (.loop (rec (if jump.isNone then .ready else .done) jump))).heap[w.heap.size + 1]? = some (.loop (rec (if jump.isNone then .ready else .done) jump)) ∧
            (W4.putObj (w.heap.size + 1) (.loop (rec (if jump.isNone then .ready else .done) jump))).heap[w.heap.size]? = some (.deferred (some [])) := fun jump => by
          have := run_endRound (P := P) jump hl4
          rw [hrec] at this ⊢
          exact ⟨this, World.putObj_heap_same (lt_of_heap hl4), (World.putObj_heap_other (by omega)).trans hk4⟩
        cases e with
        | normal =>
          obtain ⟨f1, f2, f3⟩ := fin none
          exact ⟨_, _, f1, .inl ⟨rfl, G4, σ4.back σ, fun b o v hv => ((ht2.le.trans ht4.le).fx b o v (hF b o v hv)), htt.putObj (by omega) _, rfl, hRb.putObj hl4 rfl _, hq4, f2, f3⟩⟩
        | ret =>
          obtain ⟨f1, f2, f3⟩ := fin (some .ret)
          exact ⟨_, _, f1, .inr ⟨rfl, G4, σ4.back σ, .ret, .ret, fun b o v hv => ((ht2.le.trans ht4.le).fx b o v (hF b o v hv)), htt.putObj (by omega) _, rfl, hRb.putObj hl4 rfl _, hq4, .inl ⟨rfl, rfl⟩, f2, f3⟩⟩
        | exit id =>
          obtain ⟨f1, f2, f3⟩ := fin (some (.exit id))
          exact ⟨_, _, f1, .inr ⟨rfl, G4, σ4.back σ, .exit id, .exit id, fun b o v hv => ((ht2.le.trans ht4.le).fx b o v (hF b o v hv)), htt.putObj (by omega) _, rfl, hRb.putObj hl4 rfl _, hq4, .inr ⟨id, rfl, rfl⟩, f2, f3⟩⟩
        | goto t => exact hq4.elim
        | panic ch => exact hq4.elim
        | outgrown => exact hq4.elim
      | _ => exact hq2.elim
    · refine ⟨G, σ, fun _ _ _ h => h, (Tr.refl _ _ _ _ _).keep hb1, rfl, hR0.keep hb1, h0, hL1, hK1⟩
    · have hmark : ∀ W : World, W.heap[w.heap.size]? = some (.deferred (some [])) → Mk w ds ([{ target := .collected w.heap.size, args := #[] }] ++ a.defers) W := fun W hk => ⟨[w.heap.size], by rw [hR.df]; rfl, by simp, fun D hD => by simp at hD; subst hD; exact ⟨Nat.le_refl _, hk⟩⟩
      rintro e W2 ⟨⟨v, rfl⟩, F', (⟨G', σ', _, ht, hg', hR', hi, hl, hk⟩ | ⟨G', σ', e, c, _, ht, hg', hR', hq, hc, hl, hk⟩)⟩
      · have hk' := (World.putObj_heap_other (o := .loop { rec .ready none with state := .exhausted }) (show w.heap.size ≠ w.heap.size + 1 by omega)).trans hk
        refine ⟨none, _, by have := run_endLoop (P := P) hl (by rw [hrec]; simp); rw [hrec] at this; exact this, ?_⟩
        rw [hrec] at hk'
        exact ⟨_, G', σ', hmark _ hk', ht.putObj (by omega) _, ⟨hR'.n, hR'.tm, hR'.rng, rfl, (hR'.putObj hl rfl _).sim, hR'.fr, hR'.hid⟩, hd σ' hi hg'⟩
      · have hk' := (World.putObj_heap_other (o := .loop { rec .done (some c) with state := .exhausted }) (show w.heap.size ≠ w.heap.size + 1 by omega)).trans hk
        refine ⟨some c, _, by have := run_endLoop (P := P) hl (by rw [hrec]; simp); rw [hrec] at this; exact this, ?_⟩
        rw [hrec] at hk'
        have : Aft N p ds G σ w Q e { a with defers := [{ target := .collected w.heap.size, args := #[] }] ++ a.defers } (W2.putObj (w.heap.size + 1) (.loop { rec .done (some c) with state := .exhausted })) := by
          rw [hrec]
          exact ⟨_, G', σ', hmark _ hk', ht.putObj (by omega) _, ⟨hR'.n, hR'.tm, hR'.rng, rfl, (hR'.putObj hl rfl _).sim, hR'.fr, hR'.hid⟩, hq⟩
        rw [hrec] at this
        rcases hc with ⟨rfl, rfl⟩ | ⟨id, rfl, rfl⟩
        · exact wpIn_ret this
        · exact wpIn_exit this
end
end Go.Proofs.Ytiippmhlkcbjmaa.Ax
