/- Abstract execution, part O: a range over a function. -/
import Derived.Test.YtaacfmakfkaddaaDoorAxN
set_option linter.unusedVariables false
set_option linter.unusedSimpArgs false
namespace Go.Proofs.YtaacfmakfkaddaaDoor.Ax
section
open Go Go.RowKit

abbrev FX := Nat → Nat → Option Value
def gh (F : FX) : Ghost := ⟨F, fun _ => none, fun _ => none, fun _ => none⟩
theorem gh_le {F : FX} {G : Ghost} (h : ∀ b o v, F b o = some v → G.fx b o = some v) : (gh F).le G := ⟨h, fun _ _ h => (by cases h), fun _ _ h => (by cases h), fun _ _ h => (by cases h)⟩
/-- An iterator hands on these, one behind the other, till it is told to stop; it writes nothing that there was. F: the cells that stay as they are, its own with them. -/
def IterOk (P : Program) (f : FuncId) (caps : List V) (xs : List (List V)) : Prop :=
  Callable P f ∧ ∀ (l : Nat) (J : Option Nat → FX → World → Prop),
    (∀ k F w, J k F w → ∀ b o v, F b o = some v → w.cell? ⟨b, o, none⟩ = some v) →
    (∀ k F w, J k F w → ∀ b o v, tbl b o = some v → F b o = some v) →
    (∀ k F w F' w', J k F w → Below w.heap.size w w' → (∀ b o, b < w.heap.size → F' b o = F b o) → (∀ b o v, F' b o = some v → w'.cell? ⟨b, o, none⟩ = some v) → J k F' w') →
    (∀ n x F w argsC, xs[n]? = some x → J (some n) F w → RepL (gh F) argsC x → YieldAt (Fr none) 0 P l argsC.toArray w fun e w' => (e = .returned (.bool true) ∧ J (some (n + 1)) F w') ∨ (e = .returned (.bool false) ∧ J none F w')) →
    ∀ F w capsC, RepL (gh F) capsC caps → J (some 0) F w → CallsIn (Fr none) 0 P f (#[.func (.yield l) #[] #[]] ++ capsC.toArray) w fun e w' => (∃ v, e = .returned v) ∧ ∃ F', J (some xs.length) F' w' ∨ J none F' w'

section
variable {P : Program} {E : Env} {ro : Option Nat} {N : Nat} {p : Path} {σ : St} {Q : Post}

theorem Sim.keep {G : Ghost} {M : Mem} {K : Toks} {w w' : World} (h : Sim G M K w) (b : Below w.heap.size w w') : Sim G M K w' := by
  refine ⟨fun k o v hf => ?_, fun id cs hm => ?_, h.mp, h.inj, fun t hk => ?_, h.tinj, h.tb⟩
  · have h1 := h.fx k o v hf
    exact (World.cell?_of_block (b.block k (cell_lt h1))).trans h1
  · obtain ⟨k, arr, T, hl, hh, hr⟩ := h.box id cs hm
    exact ⟨k, arr, T, hl, (b.block k (lt_of_heap hh)).trans hh, hr⟩
  · obtain ⟨g, cap, s, n, arr, T, htl, hh, ha, hn, hx, hb⟩ := h.tok t hk
    exact ⟨g, cap, s, n, arr, T, htl, (b.block g (lt_of_heap hh)).trans hh, ha, hn, hx, hb⟩
theorem Tr.keep {G0 G : Ghost} {M0 M : Mem} {K0 K : Toks} {w0 w w' : World} (h : Tr p G0 M0 K0 w0 G M K w) (b : Below w.heap.size w w') : Tr p G0 M0 K0 w0 G M K w' :=
  ⟨h.le, h.fr, b.os.trans h.up.os, b.tape.trans h.up.tape, b.output.trans h.up.output, Nat.le_trans h.up.size b.size, fun k hk hn => (b.block k (Nat.lt_of_lt_of_le hk h.up.size)).trans (h.up.keep k hk hn), h.up.wr, h.up.fxs⟩
theorem Rel.keep {ds : List Deferred} {G : Ghost} {a : Act} {w w' : World} (h : Rel N p ds G σ a w) (b : Below w.heap.size w w') : Rel N p ds G σ a w' :=
  ⟨h.n, h.tm, h.rng, h.df, h.sim.keep b, h.fr, h.hid⟩
theorem keep_obj {w w' : World} (b : Below w.heap.size w w') {k : Nat} {o : Obj} (h : w.heap[k]? = some o) : w'.heap[k]? = some o := (b.block k (lt_of_heap h)).trans h

def St.args (N : Nat) (σ : St) : List Tmp → List V → St
  | t :: ts, v :: vs => St.args N (σ.put N (some t) v) ts vs
  | _, _ => σ
def St.back (σ' σ : St) : St := { σ' with get := σ.get }
/-- A round's end. -/
def rq (σ : St) (I : St → Prop) (Q : Post) : Post
  | .normal, σ' => I (σ'.back σ)
  | .ret, σ' => Q .ret (σ'.back σ)
  | .exit id, σ' => Q (.exit id) (σ'.back σ)
  | _, _ => False
theorem Rel.args {ds : List Deferred} {G : Ghost} {w : World} : ∀ (ts : List Tmp) (vs : List V) (vsC : List Value) (σ : St) (a : Act), Rel N p ds G σ a w → RepL G vsC vs →
    Rel N p ds G (σ.args N ts vs) { a with tmps := (ts.zip vsC).foldl (fun t (p, v) => t.setIfInBounds p v) a.tmps } w
  | [], vs, vsC, σ, a, hR, h => by cases vs <;> exact hR
  | t :: ts, [], vsC, σ, a, hR, h => by
    have : vsC = [] := by have := h.1; simpa using this
    subst this; exact hR
  | t :: ts, v :: vs, vsC, σ, a, hR, h => by
    cases vsC with
    | nil => have := h.1; simp at this
    | cons vC vsC =>
      have h1 : Rep G vC v := h.2 0 vC v rfl rfl
      have h2 : RepL G vsC vs := ⟨by have := h.1; simpa using this, fun i x y hx hy => h.2 (i + 1) x y (by simpa using hx) (by simpa using hy)⟩
      exact Rel.args ts vs vsC _ _ (hR.put h1 (some t)) h2
theorem Rel.back {ds ds2 : List Deferred} {G G2 : Ghost} {a a2 : Act} {w w2 : World} {σ2 : St} (h : Rel N p ds G σ a w) (h2 : Rel N p ds2 G2 σ2 a2 w2) (hle : G.le G2) (ds3 : List Deferred) : Rel N p ds3 G2 (σ2.back σ) { a with defers := ds3 } w2 :=
  ⟨h.n, fun t v hv => (h.tm t v hv).mono hle, h.rng, rfl, h2.sim, h2.fr, h2.hid⟩
@[simp] theorem back_M (σ' σ : St) : (σ'.back σ).M = σ'.M := rfl
@[simp] theorem back_K (σ' σ : St) : (σ'.back σ).K = σ'.K := rfl
@[simp] theorem back_get (σ' σ : St) : (σ'.back σ).get = σ.get := rfl
@[simp] theorem back_cnt (σ' σ : St) : (σ'.back σ).cnt = σ'.cnt := rfl
attribute [simp] rq St.args
theorem args_M : ∀ (ts : List Tmp) (vs : List V) (σ : St), (σ.args N ts vs).M = σ.M
  | [], vs, σ => by cases vs <;> rfl
  | t :: ts, [], σ => rfl
  | t :: ts, v :: vs, σ => by rw [St.args, args_M ts vs, put_M]
theorem args_K : ∀ (ts : List Tmp) (vs : List V) (σ : St), (σ.args N ts vs).K = σ.K
  | [], vs, σ => by cases vs <;> rfl
  | t :: ts, [], σ => rfl
  | t :: ts, v :: vs, σ => by rw [St.args, args_K ts vs, put_K]

/-- More cells that stay. -/
def Ghost.more (G : Ghost) (n : Nat) (F : FX) : Ghost := { G with fx := fun b o => if b < n then G.fx b o else F b o }
theorem Ghost.more_le {G : Ghost} {M : Mem} {K : Toks} {w : World} (h : Sim G M K w) (F : FX) : G.le (G.more w.heap.size F) :=
  ⟨fun b o v hv => by simp only [Ghost.more]; rw [if_pos (cell_lt (h.fx b o v hv))]; exact hv, fun _ _ h => h, fun _ _ h => h, fun _ _ _ => rfl⟩
theorem Sim.more {G : Ghost} {M : Mem} {K : Toks} {w w' : World} (h : Sim G M K w) (b : Below w.heap.size w w') {F : FX} (hF : ∀ b o v, F b o = some v → w'.cell? ⟨b, o, none⟩ = some v) : Sim (G.more w.heap.size F) M K w' := by
  have hk := h.keep b
  have hle := Ghost.more_le h F
  refine ⟨fun k o v hf => ?_, fun id cs hm => ?_, h.mp, h.inj, fun t hk2 => ?_, h.tinj, fun b o v hv => hle.fx _ _ _ (h.tb b o v hv)⟩
  · simp only [Ghost.more] at hf
    split at hf
    · exact hk.fx k o v hf
    · exact hF k o v hf
  · obtain ⟨k, arr, T, hl, hh, hr⟩ := h.box id cs hm
    exact ⟨k, arr, T, hl, (b.block k (lt_of_heap hh)).trans hh, hr.mono hle hl fun o => by simp only [Ghost.more]; rw [if_pos (lt_of_heap hh)]⟩
  · obtain ⟨g, cap, s, n, arr, T, htl, hh, ha, hn, hx, hb⟩ := h.tok t hk2
    exact ⟨g, cap, s, n, arr, T, htl, (b.block g (lt_of_heap hh)).trans hh, ha, hn, fun o ho => by simp only [Ghost.more]; rw [if_pos (lt_of_heap hh)]; exact hx o ho, hb⟩
theorem Rel.more {ds : List Deferred} {G : Ghost} {a : Act} {w w' : World} (h : Rel N p ds G σ a w) (b : Below w.heap.size w w') {F : FX} (hF : ∀ b o v, F b o = some v → w'.cell? ⟨b, o, none⟩ = some v) : Rel N p ds (G.more w.heap.size F) σ a w' :=
  ⟨h.n, fun t v hv => (h.tm t v hv).mono (Ghost.more_le h.sim F), h.rng, h.df, h.sim.more b hF, h.fr, h.hid⟩
theorem Tr.more {G0 G : Ghost} {M0 M : Mem} {K0 K : Toks} {w0 w w' : World} (h : Tr p G0 M0 K0 w0 G M K w) (hs : Sim G M K w) (b : Below w.heap.size w w') (F : FX) : Tr p G0 M0 K0 w0 (G.more w.heap.size F) M K w' :=
  have hk := h.keep b
  ⟨h.le.trans (Ghost.more_le hs F), h.fr, hk.up.os, hk.up.tape, hk.up.output, hk.up.size, hk.up.keep, h.up.wr, fun k o hk2 hn => by
    simp only [Ghost.more]; rw [if_pos (Nat.lt_of_lt_of_le hk2 h.up.size)]; exact h.up.fxs k o hk2 hn⟩
theorem more_sub {F F' : FX} {G : Ghost} {w : World} (h : ∀ b o v, F b o = some v → G.fx b o = some v) (he : ∀ b o, b < w.heap.size → F' b o = F b o) : ∀ b o v, F' b o = some v → (G.more w.heap.size F').fx b o = some v := fun b o v hv => by
  simp only [Ghost.more]
  split
  · rename_i hb; rw [he b o hb] at hv; exact h b o v hv
  · exact hv

/-- **A range over a function.** -/
theorem T.range {g : Operand} {ps : Array Tmp} {assign body : Code} {gf : FuncId} {caps : List V} {xs : List (List V)} (hg : σ.ev g = .fn gf caps) (hI : IterOk P gf caps xs) (hcp : ∀ (G : Ghost) (cC : List Value), RepL G cC caps → RepL (gh G.fx) cC caps) (hps : ∀ x ∈ xs, x.length = ps.size) (I : Nat → St → Prop) (h0 : I 0 σ)
    (hb : ∀ l n x σ', xs[n]? = some x → I n σ' → σ'.get = σ.get → T P (some l) N p assign (σ'.args N ps.toList x) (nx (fun σ2 => T P (some l) N p body σ2 (rq σ (I (n + 1)) Q)) (fun _ _ => False)))
    (hd : ∀ σ', I xs.length σ' → σ'.get = σ.get → Q .normal σ') : T P none N p (.rangeFunc g ps assign body) σ Q := by
  intro ds G a w hR
  have hgC : ∃ capsC, a.eval g = .func (.func gf) #[] capsC ∧ RepL G capsC.toList caps := by
    have := hR.eval g; rw [hg] at this; exact rep_fn_inv this
  obtain ⟨capsC, hgC, hcaps⟩ := hgC
  refine wpIn_rangeFunc ?_
  intro fn hfn
  show ∃ l mark w₁ d w₁' f args w₂, (Instr.enterLoop fn a.tmps ps assign body none).run P w = .ok (l, mark) w₁ ∧ _
  obtain ⟨rec, hrec⟩ : ∃ rec : LoopState → Option Code → Loop, rec = fun st pe => { state := st, pending := pe, fn, tmps := a.tmps, params := ps, assign, body, defers := w.heap.size } := ⟨_, rfl⟩
  obtain ⟨W1, hW1⟩ : ∃ W1, (w.alloc (.deferred (some []))).alloc (.loop (rec .ready none)) = W1 := ⟨_, rfl⟩
  have hL1 : W1.heap[w.heap.size + 1]? = some (.loop (rec .ready none)) := by
    rw [← hW1]; have := World.alloc_heap_new (w.alloc (.deferred (some []))) (.loop (rec .ready none)); rwa [World.size_alloc] at this
  have hK1 : W1.heap[w.heap.size]? = some (.deferred (some [])) := by
    rw [← hW1]; exact (Below.heap_alloc _ _ _ (by simp)).trans (World.alloc_heap_new w _)
  have hb1 : Below w.heap.size w W1 := by
    rw [← hW1]; exact ((Below.refl _ w).alloc (Nat.le_refl _) _).alloc (by simp) _
  let J : Option Nat → FX → World → Prop
    | some n, F, W => (∀ b o v, tbl b o = some v → F b o = some v) ∧ ∃ G' σ', (∀ b o v, F b o = some v → G'.fx b o = some v) ∧ Tr p G σ.M σ.K w G' σ'.M σ'.K W ∧ σ'.get = σ.get ∧ Rel N p [] G' σ' { a with defers := [] } W ∧ I n σ' ∧ W.heap[w.heap.size + 1]? = some (.loop (rec .ready none)) ∧ W.heap[w.heap.size]? = some (.deferred (some []))
    | none, F, W => (∀ b o v, tbl b o = some v → F b o = some v) ∧ ∃ G' σ' e c, (∀ b o v, F b o = some v → G'.fx b o = some v) ∧ Tr p G σ.M σ.K w G' σ'.M σ'.K W ∧ σ'.get = σ.get ∧ Rel N p [] G' σ' { a with defers := [] } W ∧ Q e σ' ∧ ((e = .ret ∧ c = Code.ret) ∨ ∃ id, e = .exit id ∧ c = .exit id) ∧ W.heap[w.heap.size + 1]? = some (.loop (rec .done (some c))) ∧ W.heap[w.heap.size]? = some (.deferred (some []))
  have hR0 : Rel N p [] G σ { a with defers := [] } w := ⟨hR.n, hR.tm, hR.rng, rfl, hR.sim, hR.fr, hR.hid⟩
  refine ⟨w.heap.size + 1, [{ target := .collected w.heap.size, args := #[] }], W1, { target := .fn (.func gf) capsC, args := #[.func (.yield (w.heap.size + 1)) #[] #[]] }, W1, gf,
    #[.func (.yield (w.heap.size + 1)) #[] #[]] ++ capsC, W1, ?_, ?_, fun _ _ => trivial, ?_, fun h => by simp [Fr, Fence.wide] at h, ?_⟩
  · rw [← hW1, hrec]; exact run_enterLoop_outer _ _ _ _ _
  · simp only [resolve, hgC]
    simp [go_sem]
  · have := run_callFunc hI.1 (#[.func (.yield (w.heap.size + 1)) #[] #[]] ++ capsC) W1
    simp [invoke, go_sem] at this ⊢
    exact this
  · refine CallsIn.mono (hI.2 (w.heap.size + 1) J ?_ ?_ ?_ ?_ G.fx W1 capsC.toList (hcp G _ hcaps) ?_) ?_
    · intro k F W hJ b o v hf
      cases k with
      | some n => obtain ⟨_, G', σ', hF, _, _, hR', _⟩ := hJ; exact hR'.sim.fx b o v (hF b o v hf)
      | none => obtain ⟨_, G', σ', e, c, hF, _, _, hR', _⟩ := hJ; exact hR'.sim.fx b o v (hF b o v hf)
    · intro k F W hJ
      cases k with
      | some n => exact hJ.1
      | none => exact hJ.1
    · intro k F W F' W' hJ hB he ht
      cases k with
      | some n =>
        obtain ⟨hTB, G', σ', hF, htr, hg', hR', hi, hl, hk⟩ := hJ
        exact ⟨fun b o v hv => by rw [he b o (cell_lt (hR'.sim.fx _ _ _ (hF _ _ _ (hTB b o v hv))))]; exact hTB b o v hv, _, σ', more_sub hF he, htr.more hR'.sim hB F', hg', hR'.more hB ht, hi, keep_obj hB hl, keep_obj hB hk⟩
      | none =>
        obtain ⟨hTB, G', σ', e, c, hF, htr, hg', hR', hq, hc, hl, hk⟩ := hJ
        exact ⟨fun b o v hv => by rw [he b o (cell_lt (hR'.sim.fx _ _ _ (hF _ _ _ (hTB b o v hv))))]; exact hTB b o v hv, _, σ', e, c, more_sub hF he, htr.more hR'.sim hB F', hg', hR'.more hB ht, hq, hc, keep_obj hB hl, keep_obj hB hk⟩
    · rintro n x F W argsC hx ⟨hTB, G', σ', hF, ht, hg', hR', hi, hl, hk⟩ hargs
      have hy := run_yield (P := P) (args := argsC.toArray) hl (by rw [hrec]; have := hps x (List.mem_of_getElem? hx); simp [hargs.1, this])
      rw [hrec] at hy
      refine ⟨fn, _, assign, body, hy, roundIn_of_wpIn hfn ?_⟩
      have hT := hb (w.heap.size + 1) n x σ' hx hi hg'
      have hRa := Rel.args ps.toList x argsC σ' _ hR' (hargs.mono (gh_le hF))
      have e1 : (ps.zip argsC.toArray).foldl (fun t (p, v) => t.setIfInBounds p v) a.tmps = (ps.toList.zip argsC).foldl (fun t (p, v) => t.setIfInBounds p v) a.tmps := by
        rw [← Array.foldl_toList, Array.toList_zip]
      rw [e1]
      refine wpIn_mono (hT [] G' _ W hRa) ?_
      rintro e a2 W2 ⟨ds2, G2, σ2, _, ht2, hR2, hq2⟩
      rw [args_M, args_K] at ht2
      have hsimW : Sim G' σ'.M σ'.K W := hR'.sim
      have hl2 := keep_others hsimW ht2 _ _ hl rfl
      have hk2 := keep_others hsimW ht2 _ _ hk rfl
      cases e with
      | normal =>
        refine ⟨_, run_beginRound hl2 (by rw [hrec]), ?_⟩
        have hR3 := hR2.putObj hl2 rfl (.loop { rec .ready none with state := .busy })
        refine wpIn_mono (hq2 _ G2 a2 _ hR3) ?_
        have hl3 : (W2.putObj (w.heap.size + 1) (.loop { rec .ready none with state := .busy })).heap[w.heap.size + 1]? = some (.loop { rec .ready none with state := .busy }) := World.putObj_heap_same (lt_of_heap hl2)
        have hk3 : (W2.putObj (w.heap.size + 1) (.loop { rec .ready none with state := .busy })).heap[w.heap.size]? = some (.deferred (some [])) := (World.putObj_heap_other (by omega)).trans hk2
        rintro e a4 W4 ⟨ds4, G4, σ4, _, ht4, hR4, hq4⟩
        have hl4 := keep_others hR3.sim ht4 _ _ hl3 rfl
        have hk4 := keep_others hR3.sim ht4 _ _ hk3 rfl
        have htt : Tr p G σ.M σ.K w G4 σ4.M σ4.K W4 := ((ht.trans ht2).putObj (by omega) _).trans ht4
        have hRb := Rel.back hR0 hR4 htt.le []
        have fin : ∀ (jump : Option Code), (Instr.endRound (w.heap.size + 1) jump).run P W4 = .ok (.bool jump.isNone) (W4.putObj (w.heap.size + 1) (.loop (rec (if jump.isNone then .ready else .done) jump))) ∧
            (W4.putObj (w.heap.size + 1) (.loop (rec (if jump.isNone then .ready else .done) jump))).heap[w.heap.size + 1]? = some (.loop (rec (if jump.isNone then .ready else .done) jump)) ∧
            (W4.putObj (w.heap.size + 1) (.loop (rec (if jump.isNone then .ready else .done) jump))).heap[w.heap.size]? = some (.deferred (some [])) := fun jump => by
          have := run_endRound (P := P) jump hl4
          rw [hrec] at this ⊢
          exact ⟨this, World.putObj_heap_same (lt_of_heap hl4), (World.putObj_heap_other (by omega)).trans hk4⟩
        cases e with
        | normal =>
          obtain ⟨f1, f2, f3⟩ := fin none
          exact ⟨_, _, f1, .inl ⟨rfl, hTB, G4, σ4.back σ, fun b o v hv => ((ht2.le.trans ht4.le).fx b o v (hF b o v hv)), htt.putObj (by omega) _, rfl, hRb.putObj hl4 rfl _, hq4, f2, f3⟩⟩
        | ret =>
          obtain ⟨f1, f2, f3⟩ := fin (some .ret)
          exact ⟨_, _, f1, .inr ⟨rfl, hTB, G4, σ4.back σ, .ret, .ret, fun b o v hv => ((ht2.le.trans ht4.le).fx b o v (hF b o v hv)), htt.putObj (by omega) _, rfl, hRb.putObj hl4 rfl _, hq4, .inl ⟨rfl, rfl⟩, f2, f3⟩⟩
        | exit id =>
          obtain ⟨f1, f2, f3⟩ := fin (some (.exit id))
          exact ⟨_, _, f1, .inr ⟨rfl, hTB, G4, σ4.back σ, .exit id, .exit id, fun b o v hv => ((ht2.le.trans ht4.le).fx b o v (hF b o v hv)), htt.putObj (by omega) _, rfl, hRb.putObj hl4 rfl _, hq4, .inr ⟨id, rfl, rfl⟩, f2, f3⟩⟩
        | goto t => exact hq4.elim
        | panic ch => exact hq4.elim
        | outgrown => exact hq4.elim
      | _ => exact hq2.elim
    · refine ⟨hR.sim.tb, G, σ, fun _ _ _ h => h, (Tr.refl _ _ _ _ _).keep hb1, rfl, hR0.keep hb1, h0, hL1, hK1⟩
    · have hmark : ∀ W : World, W.heap[w.heap.size]? = some (.deferred (some [])) → Mk w ds ([{ target := .collected w.heap.size, args := #[] }] ++ a.defers) W := fun W hk => ⟨[w.heap.size], by rw [hR.df]; rfl, by simp, fun D hD => by simp at hD; subst hD; exact ⟨Nat.le_refl _, hk⟩⟩
      rintro e W2 ⟨⟨v, rfl⟩, F', (⟨_, G', σ', _, ht, hg', hR', hi, hl, hk⟩ | ⟨_, G', σ', e, c, _, ht, hg', hR', hq, hc, hl, hk⟩)⟩
      · have hk' := (World.putObj_heap_other (o := .loop { rec .ready none with state := .exhausted }) (show w.heap.size ≠ w.heap.size + 1 by omega)).trans hk
        refine ⟨none, _, by have := run_endLoop (P := P) hl (by rw [hrec]; simp); rw [hrec] at this; exact this, ?_⟩
        rw [hrec] at hk'
        exact ⟨_, G', σ', hmark _ hk', ht.putObj (by omega) _, ⟨hR'.n, hR'.tm, hR'.rng, rfl, (hR'.putObj hl rfl _).sim, hR'.fr, hR'.hid⟩, hd σ' hi hg'⟩
      · have hk' := (World.putObj_heap_other (o := .loop { rec .done (some c) with state := .exhausted }) (show w.heap.size ≠ w.heap.size + 1 by omega)).trans hk
        refine ⟨some c, _, by have := run_endLoop (P := P) hl (by rw [hrec]; simp); rw [hrec] at this; exact this, ?_⟩
        rw [hrec] at hk'
        have : Aft N p ds G σ w Q e { a with defers := [{ target := .collected w.heap.size, args := #[] }] ++ a.defers } (W2.putObj (w.heap.size + 1) (.loop { rec .done (some c) with state := .exhausted })) := by
          rw [hrec]
          exact ⟨_, G', σ', hmark _ hk', ht.putObj (by omega) _, ⟨hR'.n, hR'.tm, hR'.rng, rfl, (hR'.putObj hl rfl _).sim, hR'.fr, hR'.hid⟩, hq⟩
        rw [hrec] at this
        rcases hc with ⟨rfl, rfl⟩ | ⟨id, rfl, rfl⟩
        · exact wpIn_ret this
        · exact wpIn_exit this
end
end
section
open Go Go.RowKit

section
variable {P : Program} {E : Env} {ro : Option Nat} {N : Nat} {p : Path} {σ : St} {Q : Post}

/-- The box that a slot points to is written no more. -/
def frz (t : Nat) (σ : St) : St := match σ.get t with
  | .ptr id 0 => match σ.M id with
    | some (.cells cs) => { σ with get := fun u => if u = t then .cptr cs 0 else σ.get u, M := upd σ.M id none }
    | _ => σ
  | _ => σ
theorem upd_none_ne {M : Mem} {id q : Path} (h : upd M id none q ≠ none) : q ≠ id ∧ M q ≠ none := by
  by_cases e : q = id
  · subst e; exact absurd (upd_same _ _ _) h
  · rw [upd_ne _ _ e] at h; exact ⟨e, h⟩
/-- A block that is written no more. -/
def Ghost.frzB (G : Ghost) (b : Nat) (arr : Array Value) : Ghost := { G with fx := fun k o => if k = b then arr[o]? else G.fx k o }
theorem Sim.frzB {G : Ghost} {M : Mem} {K : Toks} {w : World} (h : Sim G M K w) {id : Path} {cs : List V} (hm : M id = some (.cells cs)) {b : Nat} {arr : Array Value} {T : TypeId} (hl : G.loc id = some b) (hh : w.heap[b]? = some (.cells arr T (0, 0))) :
    G.le (G.frzB b arr) ∧ (∀ k o, ¬ Wr G M K k → (G.frzB b arr).fx k o = G.fx k o) ∧ (∀ k, Wr (G.frzB b arr) (upd M id none) K k → Wr G M K k) ∧ Sim (G.frzB b arr) (upd M id none) K w := by
  obtain ⟨b', arr', T', hl', hh', hba⟩ := h.box id cs hm
  rw [hl] at hl'; cases hl'
  rw [hh] at hh'; cases hh'
  have hle : G.le (G.frzB b arr) := ⟨fun k o v hv => by
    have hk : ¬ k = b := fun e => by subst e; rw [hba.2.1 o] at hv; cases hv
    simp only [Ghost.frzB, if_neg hk]; exact hv, fun _ _ h => h, fun _ _ h => h, fun _ _ _ => rfl⟩
  refine ⟨hle, fun k o hk => ?_, fun k hk => ?_, fun k o v hv => ?_, fun q cs' hq => ?_, fun q es hq => ?_, fun q q' k hq hq' => h.inj q q' k (upd_none_ne hq).2 (upd_none_ne hq').2, fun u hu => ?_, h.tinj, fun b o v hv => hle.fx _ _ _ (h.tb b o v hv)⟩
  · have : ¬ k = b := fun e => hk (.inl ⟨id, by rw [hm]; simp, by rw [e]; exact hl⟩)
    simp only [Ghost.frzB, if_neg this]
  · rcases hk with ⟨q, hq, hlq⟩ | hk
    · exact .inl ⟨q, (upd_none_ne hq).2, hlq⟩
    · exact .inr hk
  · simp only [Ghost.frzB] at hv
    split at hv
    · rename_i e; subst e; rw [cell_of_heap hh]; exact hv
    · exact h.fx k o v hv
  · have hne := upd_none_ne (M := M) (id := id) (q := q) (by rw [hq]; simp)
    rw [upd_ne _ _ hne.1] at hq
    obtain ⟨k, arr', T', hlq, hhq, hrq⟩ := h.box q cs' hq
    have hk : ¬ k = b := fun e => by subst e; exact hne.1 (h.inj q id k hne.2 (by rw [hm]; simp) hlq hl)
    exact ⟨k, arr', T', hlq, hhq, hrq.mono hle hlq fun o => by simp only [Ghost.frzB, if_neg hk]⟩
  · have hne := upd_none_ne (M := M) (id := id) (q := q) (by rw [hq]; simp)
    rw [upd_ne _ _ hne.1] at hq
    exact h.mp q es hq
  · obtain ⟨g, cap, s, n, arr', T', htl, hhg, ha, hn, hx, hb⟩ := h.tok u hu
    have hk : ¬ g = b := fun e => hb id (by rw [hm]; simp) (by rw [e]; exact hl)
    exact ⟨g, cap, s, n, arr', T', htl, hhg, ha, hn, fun o ho => by simp only [Ghost.frzB, if_neg hk]; exact hx o ho, fun q hq => hb q (upd_none_ne hq).2⟩
/-- What a frozen block's cells are. -/
theorem BoxAt.frz {G : Ghost} {id : Path} {b : Nat} {arr : Array Value} {cs : List V} (h : BoxAt G id b arr cs) (hle : G.le (G.frzB b arr)) {j : Nat} {x : V} (hx : cs[j]? = some x) :
    (G.frzB b arr).fx b j = some (arr[j]?.getD undef) ∧ Rep (G.frzB b arr) (arr[j]?.getD undef) x := by
  obtain ⟨v, hv, hr⟩ := h.rep hx
  simp only [Ghost.frzB, if_true, hv, Option.getD_some, true_and]
  exact hr.mono hle
/-- The same state, some memory frozen, one slot told anew. -/
def Frzd (N : Nat) (p : Path) (ds : List Deferred) (G : Ghost) (σ σ' : St) (a : Act) (w : World) : Prop :=
  ∃ G', G.le G' ∧ G'.loc = G.loc ∧ G'.tl = G.tl ∧ (∀ b o, ¬ Wr G σ.M σ.K b → G'.fx b o = G.fx b o) ∧ (∀ b, Wr G' σ'.M σ'.K b → Wr G σ.M σ.K b) ∧ Rel N p ds G' σ' a w
theorem Frzd.same {ds : List Deferred} {G : Ghost} {a : Act} {w : World} (h : Rel N p ds G σ a w) : Frzd N p ds G σ σ a w := ⟨G, .refl G, rfl, rfl, fun _ _ _ => rfl, fun _ h => h, h⟩
theorem Frzd.box {ds : List Deferred} {G : Ghost} {a : Act} {w : World} (h : Rel N p ds G σ a w) (t : Nat) (ht : t < N) {id : Path} {cs : List V} (hm : σ.M id = some (.cells cs)) (x : V)
    (hx : ∀ b arr v, G.loc id = some b → BoxAt G id b arr cs → G.le (G.frzB b arr) → Rep G v (σ.get t) → Rep (G.frzB b arr) v x) :
    Frzd N p ds G σ { σ with get := fun u => if u = t then x else σ.get u, M := upd σ.M id none } a w := by
  obtain ⟨b, arr, T, hl, hh, hba⟩ := h.sim.box id cs hm
  obtain ⟨hle, h1, h2, hs⟩ := h.sim.frzB hm hl hh
  refine ⟨G.frzB b arr, hle, rfl, rfl, h1, h2, h.n, fun u v hv => ?_, fun u hu => ?_, h.df, hs, h.fr, h.hid⟩
  · by_cases e : u = t
    · subst e
      simp only [if_true]
      exact hx b arr v hl hba hle (h.tm u v hv)
    · simp only [if_neg e]; exact (h.tm u v hv).mono hle
  · have : ¬ u = t := by omega
    simp only [if_neg this]; exact h.rng u hu
theorem T.frzd {c : Code} {σ' : St} (hf : ∀ ds G a w, Rel N p ds G σ a w → Frzd N p ds G σ σ' a w) (h : T P ro N p c σ' Q) : T P ro N p c σ Q := by
  intro ds G a w hR
  obtain ⟨G', hle, hl, htl, hfx, hwr, hR'⟩ := hf ds G a w hR
  refine wpIn_mono (h ds G' a w hR') ?_
  rintro e a2 w2 ⟨ds2, G2, σ2, h1, h2, h3, h4⟩
  have t0 : Tr p G σ.M σ.K w G' σ'.M σ'.K w := ⟨hle, fun id _ => by rw [hl, htl]; exact ⟨rfl, rfl⟩, rfl, rfl, rfl, Nat.le_refl _, fun _ _ _ => rfl, fun b _ hb => hwr b hb, fun b o _ hb => hfx b o hb⟩
  exact ⟨ds2, G2, σ2, h1, t0.trans h2, h3, h4⟩
theorem Rel.frz {ds : List Deferred} {G : Ghost} {a : Act} {w : World} (h : Rel N p ds G σ a w) (t : Nat) (ht : t < N) : Frzd N p ds G σ (Ax.frz t σ) a w := by
  unfold Ax.frz
  split
  · rename_i id hg
    split
    · rename_i cs hm
      refine Frzd.box h t ht hm _ fun b arr v hl hba hle hv => ?_
      rw [hg] at hv
      cases hv with
      | ptr _ _ b' hb' =>
        rw [hl] at hb'; cases hb'
        have := Rep.cptr (G := G.frzB b arr) b 0 cs 0 (fun j => arr[j]?.getD undef) (fun j x hj => by simpa using (hba.frz hle hj).1) (fun j x hj => (hba.frz hle hj).2)
        simpa using this
    · exact .same h
  · exact .same h
theorem T.frz {c : Code} (t : Nat) (ht : t < N) (h : T P ro N p c (Ax.frz t σ) Q) : T P ro N p c σ Q := T.frzd (fun _ _ _ _ hR => hR.frz t ht) h

/-! ### Code that calls on, between whose steps the world may turn, the cells that stay apart -/
def frzs (ts : List Nat) (σ : St) : St := ts.foldl (fun σ t => frz t σ) σ
def fin0 (ts : List Nat) (σ : St) : St := { frzs ts σ with M := noM, K := noK }
theorem Rel.frzs {ds : List Deferred} {a : Act} {w : World} : ∀ (ts : List Nat) (G : Ghost) (σ : St), Rel N p ds G σ a w → (∀ t ∈ ts, t < N) → ∃ G', G.le G' ∧ (∀ b o, ¬ Wr G σ.M σ.K b → G'.fx b o = G.fx b o) ∧ (∀ b, Wr G' (Ax.frzs ts σ).M (Ax.frzs ts σ).K b → Wr G σ.M σ.K b) ∧ Rel N p ds G' (Ax.frzs ts σ) a w
  | [], G, σ, h, _ => ⟨G, .refl G, fun _ _ _ => rfl, fun _ h => h, h⟩
  | t :: ts, G, σ, h, ht => by
    obtain ⟨G1, hle, hl, htl, hfx, hwr, hR⟩ := h.frz t (ht t (by simp))
    obtain ⟨G2, hle2, hfx2, hwr2, hR2⟩ := Rel.frzs ts G1 _ hR (fun u hu => ht u (by simp [hu]))
    exact ⟨G2, hle.trans hle2, fun b o hb => (hfx2 b o (fun h => hb (hwr b h))).trans (hfx b o hb), fun b hb => hwr b (hwr2 b hb), hR2⟩
theorem no_wr {G : Ghost} (b : Nat) : ¬ Wr G noM noK b := fun h => by
  rcases h with ⟨id, h, _⟩ | ⟨t, x, h, _⟩
  · exact h rfl
  · cases h
/-- What there was lies as it lay. -/
theorem below_of {G G' : Ghost} {M' : Mem} {K' : Toks} {w w' : World} (ht : Tr p G noM noK w G' M' K' w') : Below w.heap.size w w' :=
  ⟨ht.up.os, ht.up.tape, ht.up.output, ht.up.size, fun b hb => ht.up.keep b hb (no_wr b)⟩
theorem Rel.fin0 {ds : List Deferred} {G G' : Ghost} {a : Act} {w w' : World} (ts : List Nat) (hts : ∀ t ∈ ts, t < N) {σ' : St} (ht : Tr p G noM noK w G' σ'.M σ'.K w') (h : Rel N p ds G' σ' a w') :
    ∃ G2, G.le G2 ∧ (∀ b o, b < w.heap.size → G2.fx b o = G.fx b o) ∧ Rel N p ds G2 (Ax.fin0 ts σ') a w' := by
  obtain ⟨G2, hle, hfx, hwr, hR⟩ := h.frzs ts _ _ hts
  refine ⟨G2, ht.le.trans hle, fun b o hb => ?_, hR.n, hR.tm, hR.rng, hR.df, hR.sim.forget (fun id h => absurd rfl h) (fun t h => by cases h), hR.fr, hR.hid⟩
  rw [hfx b o (fun h => no_wr b (ht.up.wr b hb h))]
  exact ht.up.fxs b o hb (no_wr b)
theorem Rel.world {ds : List Deferred} {G : Ghost} {a : Act} {w w' : World} (h : Rel N p ds G σ a w) (hM : σ.M = noM) (hK : σ.K = noK) {F : FX} (hF : ∀ b o v, G.fx b o = some v → F b o = some v) (hc : ∀ b o v, F b o = some v → w'.cell? ⟨b, o, none⟩ = some v) : Rel N p ds { G with fx := F } σ a w' := by
  have hle : G.le { G with fx := F } := ⟨hF, fun _ _ h => h, fun _ _ h => h, fun _ _ _ => rfl⟩
  refine ⟨h.n, fun t v hv => (h.tm t v hv).mono hle, h.rng, h.df, ?_, h.fr, h.hid⟩
  rw [hM, hK]
  exact ⟨hc, fun id cs hm => (by cases hm), fun id es hm => (by cases hm), fun id id' b hm => absurd rfl hm, fun t ht => (by cases ht), fun t t' g x x' ht => (by cases ht), fun b o v hv => hF _ _ _ (h.sim.tb b o v hv)⟩

abbrev JW := Option Nat → FX → World → Prop
structure JOk (J : JW) : Prop where
  fx : ∀ k F w, J k F w → ∀ b o v, F b o = some v → w.cell? ⟨b, o, none⟩ = some v
  tb : ∀ k F w, J k F w → ∀ b o v, tbl b o = some v → F b o = some v
  go : ∀ k F w F' w', J k F w → Below w.heap.size w w' → (∀ b o, b < w.heap.size → F' b o = F b o) → (∀ b o v, F' b o = some v → w'.cell? ⟨b, o, none⟩ = some v) → J k F' w'
abbrev PostJ := Option Nat → Exit → St → Prop
def AftJ (J : JW) (N : Nat) (p : Path) (G : Ghost) (Q : PostJ) (e : Exit) (a' : Act) (w' : World) : Prop :=
  ∃ G' σ' k', (∀ b o v, G.fx b o = some v → G'.fx b o = some v) ∧ Rel N p [] G' σ' a' w' ∧ σ'.M = noM ∧ σ'.K = noK ∧ J k' G'.fx w' ∧ Q k' e σ'
def TJ (P : Program) (J : JW) (N : Nat) (p : Path) (c : Code) (σ : St) (k : Option Nat) (Q : PostJ) : Prop :=
  ∀ G a w, Rel N p [] G σ a w → σ.M = noM → σ.K = noK → J k G.fx w → c.wpIn (Fr none) 0 P (AftJ J N p G Q) a w
def nxJ (K : Option Nat → St → Prop) (Q : PostJ) : PostJ
  | k, .normal, σ => K k σ
  | k, e, σ => Q k e σ
def blkJ (id : Nat) (Q : PostJ) : PostJ
  | k, .exit id', σ => if id' = id then Q k .normal σ else Q k (.exit id') σ
  | k, e, σ => Q k e σ
attribute [simp] nxJ blkJ
variable {J : JW} {k : Option Nat} {Q : PostJ}
theorem AftJ.here {G : Ghost} {a : Act} {w : World} {e : Exit} (hR : Rel N p [] G σ a w) (hM : σ.M = noM) (hK : σ.K = noK) (hJ : J k G.fx w) (h : Q k e σ) : AftJ J N p G Q e a w := ⟨G, σ, k, fun _ _ _ h => h, hR, hM, hK, hJ, h⟩
theorem AftJ.trans {G G1 : Ghost} {a2 : Act} {w2 : World} {e : Exit} (h1 : ∀ b o v, G.fx b o = some v → G1.fx b o = some v) (h : AftJ J N p G1 Q e a2 w2) : AftJ J N p G Q e a2 w2 := by
  obtain ⟨G2, σ2, k2, h2, h3⟩ := h
  exact ⟨G2, σ2, k2, fun b o v hv => h2 b o v (h1 b o v hv), h3⟩
theorem TJ.skip (h : Q k .normal σ) : TJ P J N p .skip σ k Q := fun G a w hR hM hK hJ => wpIn_skip (.here hR hM hK hJ h)
theorem TJ.exit {id : Nat} (h : Q k (.exit id) σ) : TJ P J N p (.exit id) σ k Q := fun G a w hR hM hK hJ => wpIn_exit (.here hR hM hK hJ h)
theorem TJ.ret (h : Q k .ret σ) : TJ P J N p .ret σ k Q := fun G a w hR hM hK hJ => wpIn_ret (.here hR hM hK hJ h)
structure ContJ (K R : Option Nat → St → Prop) : Prop where
  go : ∀ k σ, R k σ → K k σ
theorem TJ.sq {x y : Code} (h : ∀ K : Option Nat → St → Prop, ContJ K (fun k σ' => TJ P J N p y σ' k Q) → TJ P J N p x σ k (nxJ K Q)) : TJ P J N p (.seq x y) σ k Q := by
  intro G a w hR hM hK hJ
  refine wpIn_seq (wpIn_mono (h (fun k σ' => TJ P J N p y σ' k Q) ⟨fun _ _ h => h⟩ G a w hR hM hK hJ) ?_)
  rintro e a' w' ⟨G', σ', k', h1, h2, h3, h4, h5, h6⟩
  cases e with
  | normal => exact wpIn_mono (h6 G' a' w' h2 h3 h4 h5) fun e2 a2 w2 h => h.trans h1
  | _ => exact ⟨G', σ', k', h1, h2, h3, h4, h5, h6⟩
theorem TJ.br {c : Operand} {x y : Code} (h : ∀ K1 K2 : Prop, Cnt (TJ P J N p x σ k Q) K1 → Cnt (TJ P J N p y σ k Q) K2 → brV (σ.ev c) K1 K2) : TJ P J N p (.cond c x y) σ k Q := by
  intro G a w hR hM hK hJ
  have h0 := h (TJ P J N p x σ k Q) (TJ P J N p y σ k Q) ⟨id⟩ ⟨id⟩
  have h1 := hR.eval c
  cases hv : σ.ev c with
  | bool b =>
    rw [hv] at h0 h1
    have h2 : a.eval c = .bool b := by generalize a.eval c = z at h1; cases h1; rfl
    exact wpIn_cond_split h2 (fun e => h0.1 e G a w hR hM hK hJ) (fun e => h0.2 e G a w hR hM hK hJ)
  | _ => rw [hv] at h0; exact h0.elim
theorem TJ.block {id : Nat} {c : Code} (h : TJ P J N p c σ k (blkJ id Q)) : TJ P J N p (.block id c) σ k Q := by
  intro G a w hR hM hK hJ
  refine wpIn_block (wpIn_mono (h G a w hR hM hK hJ) ?_)
  rintro e a' w' ⟨G', σ', k', h1, h2, h3, h4, h5, h6⟩
  cases e with
  | exit id' =>
    simp only [blkJ] at h6
    simp only [Exit.inBlock]
    split at h6
    · rename_i e; rw [if_pos e]; exact ⟨G', σ', k', h1, h2, h3, h4, h5, h6⟩
    · rename_i e; rw [if_neg e]; exact ⟨G', σ', k', h1, h2, h3, h4, h5, h6⟩
  | _ => exact ⟨G', σ', k', h1, h2, h3, h4, h5, h6⟩
theorem TJ.len {c : Code} {t : Nat} {els : List (List V)} {tk : Tk} (h : σ.get t = .sl els tk) (g : els.length ≤ 9223372036854775807 → TJ P J N p c σ k Q) : TJ P J N p c σ k Q := fun G a w hR =>
  g (by have := hR.eval (.tmp t); rw [St.ev, h] at this; exact this.len) G a w hR
open Classical in
theorem TJ.loop {c : Code} (I : Nat → Option Nat → St → Prop) (n : Nat) (h0 : I n k σ) (h : ∀ n k' σ', I n k' σ' → TJ P J N p c σ' k' (nxJ (fun k'' σ'' => ∃ m, m < n ∧ I m k'' σ'') Q)) : TJ P J N p (.loop c) σ k Q := by
  intro G a w hR hM hK hJ
  let H : Nat → Act → World → Prop := fun n a' w' => AftJ J N p G (fun k' _ σ' => I n k' σ') .normal a' w'
  let μ : Act → World → Nat := fun a' w' => if hx : ∃ n, H n a' w' then Classical.choose (least hx) else 0
  have hμ : ∀ a' w' m, H m a' w' → H (μ a' w') a' w' ∧ μ a' w' ≤ m := fun a' w' m hJ => by
    have hx : ∃ n, H n a' w' := ⟨m, hJ⟩
    simp only [μ, dif_pos hx]
    exact ⟨(Classical.choose_spec (least hx)).1, (Classical.choose_spec (least hx)).2 m hJ⟩
  refine wpIn_loop (fun a' w' => ∃ n, H n a' w') μ ⟨n, .here (k := k) hR hM hK hJ h0⟩ ?_
  rintro a1 w1 ⟨m, hH⟩
  obtain ⟨G1, σ1, k1, f1, R1, M1, K1, J1, I1⟩ := (hμ a1 w1 m hH).1
  refine wpIn_mono (h _ k1 σ1 I1 G1 a1 w1 R1 M1 K1 J1) ?_
  rintro e a2 w2 ha
  obtain ⟨G2, σ2, k2, f2, R2, M2, K2, J2, hq⟩ := ha.trans f1
  cases e with
  | normal =>
    obtain ⟨m', hm', hI⟩ := hq
    have hH2 : H m' a2 w2 := ⟨G2, σ2, k2, f2, R2, M2, K2, J2, hI⟩
    exact ⟨⟨m', hH2⟩, Nat.lt_of_le_of_lt (hμ a2 w2 m' hH2).2 hm'⟩
  | _ => exact ⟨G2, σ2, k2, f2, R2, M2, K2, J2, hq⟩
theorem runOps_aft (hE : EnvOk P E) (hJo : JOk J) {ops : Array Oper} {fz : List Nat} (hfz : ∀ t ∈ fz, t < N) {l : List Nat} {os : List Oper} (hl : l.map (fun i => ops[i]?) = os.map some) {G : Ghost} {a : Act} {w : World} (hR : Rel N p [] G σ a w) (hM : σ.M = noM) (hK : σ.K = noK) (hJ : J k G.fx w)
    {Kf : St → Prop} (h : goOps P E N p ops os σ Kf) {Q : Exit → Act → World → Prop}
    (hq : ∀ G' σ' a' w', (∀ b o v, G.fx b o = some v → G'.fx b o = some v) → Rel N p [] G' (fin0 fz σ') a' w' → J k G'.fx w' → Kf σ' → Q .normal a' w') : wpOps P ops Q l a w := by
  refine runOps_wp hE ops l os G σ a w hl hR (goOps_run ops _ σ h) fun G' σ' a' w' ht hR' hk => ?_
  rw [hM, hK] at ht
  obtain ⟨G2, hle, hfx, hR2⟩ := hR'.fin0 fz hfz ht
  exact hq G2 σ' a' w' hle.fx hR2 (hJo.go k _ w _ w' hJ (below_of ht) hfx hR2.sim.fx) hk
theorem range_mapA (ops : Array Oper) : (List.range ops.size).map (fun i => ops[i]?) = ops.toList.map some := by
  apply List.ext_getElem?
  intro i
  simp only [List.getElem?_map]
  by_cases hi : i < ops.size
  · simp [List.getElem?_range hi, hi]
  · rw [List.getElem?_eq_none (by simp; omega), List.getElem?_eq_none (by simp; omega)]; rfl
theorem range_mapP {ops : Array Oper} {pre rest : List Oper} (h : ops = (pre ++ rest).toArray) : (List.range pre.length).map (fun i => ops[i]?) = pre.map some := by
  subst h
  apply List.ext_getElem?
  intro i
  simp only [List.getElem?_map]
  by_cases hi : i < pre.length
  · simp [List.getElem?_range hi, List.getElem?_append_left, hi]
  · rw [List.getElem?_eq_none (by simp; omega), List.getElem?_eq_none (by omega)]; rfl
theorem TJ.reg (hE : EnvOk P E) (hJo : JOk J) (fz : List Nat) {id : Nat} {ops : Array Oper} (hd : noDefer ops = true) (hfz : ∀ t ∈ fz, t < N) (h : goOps P E N p ops ops.toList σ (fun σ' => Q k .normal (fin0 fz σ'))) : TJ P J N p (.region id ops false) σ k Q := by
  intro G a w hR hM hK hJ
  refine wpIn_mono (wpIn_region (wpOps_in (Q := fun e a' w' => e = .normal ∧ AftJ J N p G Q .normal a' w') (fun a w h => by cases h.1) hd _ _ _ ?_)) fun e a w h => by obtain ⟨rfl, h⟩ := h; exact h
  refine runOps_aft hE hJo hfz (range_mapA ops) hR hM hK hJ h fun G' σ' a' w' h1 h2 h3 h4 => ⟨rfl, G', fin0 fz σ', k, h1, h2, rfl, rfl, h3, h4⟩

/-! ### A call between other operations -/
theorem upon_in2 {ro : Option Nat} {o : Oper} {a : Act} {next next' : Act → World → Prop} {Q' Q : Exit → Act → World → Prop} (hq : ∀ e a w, Q' e a w → e = .normal) (hn : ∀ a w, next a w → next' a w) : ∀ r, o.upon P a next Q' r → o.uponIn (Fr ro) 0 P a next' Q r
  | .ok (.value v) w', h => hn _ _ h
  | .ok .skip w', h => hn _ _ h
  | .ok (.defer d) w', h => hn _ _ h
  | .ok (.enter f args) w', h => ⟨fun hd => by simp [Fr, Fence.wide] at hd, callsIn_of (Calls.mono h fun e w h => by
      cases e with
      | returned v => exact hn _ _ h
      | panicked c => cases hq _ _ _ h
      | outgrown => obtain ⟨a', w', h⟩ := h; cases hq _ _ _ h)⟩
  | .ok (.row row args) w', h => ⟨fun hd => by simp [Fr, Fence.wide] at hd, rowsIn_of (Rows.mono h fun v w h => hn _ _ h)⟩
  | .ok (.round l f tmps assign body) w', h => h.elim
  | .halt (.panic v) w', h => by cases hq _ _ _ h
theorem wpOps_in2 {ro : Option Nat} {ops : Array Oper} {Q' Q : Exit → Act → World → Prop} (hq : ∀ e a w, Q' e a w → e = .normal) (hd : noDefer ops = true) {l2 : List Nat} (hn : ∀ a w, Q' .normal a w → wpOpsIn (Fr ro) 0 P ops Q l2 a w) : ∀ (l : List Nat) (a : Act) (w : World), wpOps P ops Q' l a w → wpOpsIn (Fr ro) 0 P ops Q (l ++ l2) a w
  | [], a, w, h => hn a w h
  | i :: l, a, w, h => by
    simp only [wpOps] at h
    simp only [List.cons_append, wpOpsIn]
    cases ho : ops[i]? with
    | none => rw [ho] at h; exact wpOps_in2 hq hd hn l a w h
    | some o =>
      rw [ho] at h
      simp only at h ⊢
      split at h
      · rename_i hw
        rw [if_pos hw]
        rcases h with h | ⟨_, a', w', h⟩
        · refine ⟨fun _ _ => trivial, ?_⟩
          have hnd : ∀ c, o.op ≠ .defer c := fun c hc => by
            have := List.all_eq_true.1 hd o (by simpa using Array.mem_of_getElem? ho)
            rw [hc] at this; cases this
          rw [Oper.semAt_eq _ _ _ hnd]
          exact upon_in2 hq (fun a w h => wpOps_in2 hq hd hn l a w h) _ h
        · cases hq _ _ _ h
      · rename_i hw
        rw [if_neg hw]
        exact ⟨fun _ _ => trivial, wpOps_in2 hq hd hn l _ w h⟩
theorem goOps_mono (ops : Array Oper) : ∀ (l : List Oper) (σ : St) {K K' : St → Prop}, (∀ σ, K σ → K' σ) → goOps P E N p ops l σ K → goOps P E N p ops l σ K'
  | [], σ, K, K', h, hk => h σ hk
  | o :: l, σ, K, K', h, hk => by
    simp only [goOps] at hk ⊢
    split
    · rename_i c hc
      simp only [hc] at hk
      split
      · rename_i e; rw [if_pos e] at hk; exact ⟨hk.1, goOps_mono ops l _ h hk.2⟩
      · rename_i e; rw [if_neg e] at hk; exact goOps_mono ops l _ h hk
    · rename_i hc; simp only [hc] at hk
theorem TJ.mid (hE : EnvOk P E) (hJo : JOk J) (fz : List Nat) {id : Nat} {ops : Array Oper} (pre post : List Oper) (o : Oper) (hops : ops = (pre ++ o :: post).toArray) (hd : noDefer ops = true) (hfz : ∀ t ∈ fz, t < N)
    (h : goOps P E N p ops pre σ (fun σ1 => gd ops o (fin0 fz σ1).get = some true ∧ ∀ G a w, Rel N p [] G (fin0 fz σ1) a w → J k G.fx w → ∀ (next : Act → World → Prop),
      (∀ b k' F w', (∀ b o v, G.fx b o = some v → F b o = some v) → J k' F w' → goOps P E N p ops post ((fin0 fz σ1).put N o.dst (.bool b)) (fun σ3 => Q k' .normal (fin0 [] σ3)) → next (a.put o.dst (.bool b)) w') → o.uponIn (Fr none) 0 P a next (AftJ J N p G Q) ((execOp a.eval o).run P w))) :
    TJ P J N p (.region id ops false) σ k Q := by
  intro G a w hR hM hK hJ
  have hsz : ops.size = pre.length + (1 + post.length) := by rw [hops]; simp; omega
  have hr : List.range ops.size = List.range pre.length ++ (pre.length :: (List.range' (pre.length + 1) post.length)) := by
    rw [hsz, List.range_eq_range', List.range_eq_range', ← List.range'_append_1]
    simp [Nat.add_comm 1, List.range'_succ]
  refine wpIn_region ?_
  rw [hr]
  refine wpOps_in2 (Q' := fun e a' w' => e = .normal ∧ ∃ G' σ1, (∀ b o v, G.fx b o = some v → G'.fx b o = some v) ∧ Rel N p [] G' (fin0 fz σ1) a' w' ∧ J k G'.fx w' ∧ gd ops o (fin0 fz σ1).get = some true ∧ ∀ G a w, Rel N p [] G (fin0 fz σ1) a w → J k G.fx w → ∀ (next : Act → World → Prop),
      (∀ b k' F w', (∀ b o v, G.fx b o = some v → F b o = some v) → J k' F w' → goOps P E N p ops post ((fin0 fz σ1).put N o.dst (.bool b)) (fun σ3 => Q k' .normal (fin0 [] σ3)) → next (a.put o.dst (.bool b)) w') → o.uponIn (Fr none) 0 P a next (AftJ J N p G Q) ((execOp a.eval o).run P w)) (fun e a w h => h.1) hd ?_ _ _ _ ?_
  · rintro a1 w1 ⟨_, G1, σ1, f1, R1, J1, hg, hcall⟩
    have ho : ops[pre.length]? = some o := by rw [hops]; simp
    simp only [wpOpsIn, ho]
    rw [if_pos (wanted_eq R1 ops o hg)]
    have hnd : ∀ c, o.op ≠ .defer c := fun c hc => by
      have := List.all_eq_true.1 hd o (by simpa using Array.mem_of_getElem? ho)
      rw [hc] at this; cases this
    refine ⟨fun _ _ => trivial, ?_⟩
    rw [Oper.semAt_eq _ _ _ hnd]
    have key : ∀ b k' F w', (∀ b o v, G1.fx b o = some v → F b o = some v) → J k' F w' → goOps P E N p ops post ((fin0 fz σ1).put N o.dst (.bool b)) (fun σ3 => Q k' .normal (fin0 [] σ3)) → wpOpsIn (Fr none) 0 P ops (AftJ J N p G Q) (List.range' (pre.length + 1) post.length) (a1.put o.dst (.bool b)) w' := by
      intro b k' F w' hF hJ' hgo
      have R2 := (R1.world rfl rfl hF (hJo.fx k' F w' hJ')).put (Rep.bool b) o.dst
      have hl : (List.range' (pre.length + 1) post.length).map (fun i => ops[i]?) = post.map some := by
        apply List.ext_getElem?
        intro i
        simp only [List.getElem?_map, hops]
        by_cases hi : i < post.length
        · rw [List.getElem?_range' hi, List.getElem?_eq_getElem hi]
          simp [List.getElem?_append, Nat.add_assoc, Nat.add_comm 1 i, hi]
        · rw [List.getElem?_eq_none (by simp; omega), List.getElem?_eq_none (by omega)]; rfl
      have h2 := runOps_aft hE hJo (fz := []) (fun t ht => nomatch ht) hl R2 (by rw [put_M]; rfl) (by rw [put_K]; rfl) hJ' hgo (Q := fun e a' w' => e = .normal ∧ AftJ J N p G Q .normal a' w')
        fun G' σ' a' w' h1 h2 h3 h4 => ⟨rfl, G', fin0 [] σ', k', fun b o v hv => h1 b o v (hF b o v (f1 b o v hv)), h2, rfl, rfl, h3, h4⟩
      have h3 := wpOps_in2 (ro := none) (l2 := []) (Q := AftJ J N p G Q) (fun e a w h => h.1) hd (fun a w h => h.2) _ _ _ h2
      rwa [List.append_nil] at h3
    have mono : ∀ (G0 : Ghost) (next : Act → World → Prop) r, (∀ b o v, G.fx b o = some v → G0.fx b o = some v) → o.uponIn (Fr none) 0 P a1 next (AftJ J N p G0 Q) r → o.uponIn (Fr none) 0 P a1 next (AftJ J N p G Q) r := by
      intro G0 next r hF hu
      cases r with
      | ok nx w' =>
        cases nx with
        | enter f args => exact ⟨hu.1, hu.2.mono fun e w h => by
            cases e with
            | returned v => exact h
            | panicked c => exact AftJ.trans hF h
            | outgrown => obtain ⟨a', w', h⟩ := h; exact ⟨a', w', AftJ.trans hF h⟩⟩
        | round l f tmps assign body => exact ⟨hu.1, hu.2.mono fun e w h => by
            cases e with
            | returned v => exact h
            | panicked c => exact AftJ.trans hF h
            | outgrown => obtain ⟨a', w', h⟩ := h; exact ⟨a', w', AftJ.trans hF h⟩⟩
        | _ => exact hu
      | halt hlt w' =>
        cases hlt with
        | panic v => exact AftJ.trans hF hu
        | _ => exact hu
    exact mono G1 _ _ f1 (hcall G1 a1 w1 R1 J1 _ key)
  · refine runOps_aft hE hJo hfz (range_mapP hops) hR hM hK hJ h fun G' σ' a' w' h1 h2 h3 h4 => ⟨rfl, G', σ', h1, h2, h3, h4⟩
/-! ### Functions that call on -/
def finJ (P : Program) (fn : Func) (R : Option Nat → V → Prop) : PostJ := fun k e σ => match e with
  | .normal | .ret => (resAll P σ fn.results.toList).pre ∧ R k (resAll P σ fn.results.toList).v
  | _ => False
theorem calls_of_TJ (hJo : JOk J) {f : FuncId} {fn : Func} {c : Code} (hf : P.funcs[f]? = some fn) (hb : fn.body = some c) {args : List V} (hn : args.length ≤ fn.ntmps) {k : Option Nat} {R : Option Nat → V → Prop} (h : TJ P J fn.ntmps [] c (entry args noM noK) k (finJ P fn R))
    (F : FX) (w : World) (argsC : List Value) (hr : RepL (gh F) argsC args) (hJ : J k F w) :
    CallsIn (Fr none) 0 P f argsC.toArray w fun e w' => ∃ v G' x k', e = .returned v ∧ Rep G' v x ∧ (∀ b o v, F b o = some v → G'.fx b o = some v) ∧ J k' G'.fx w' ∧ R k' x := by
  refine callsIn_of_wp hf hb trivial (wpIn_mono (h (gh F) _ w (rel_entry (fn := fn) (q := []) hn ⟨hJo.fx k F w hJ, fun id cs hm => (by cases hm), fun id es hm => (by cases hm), fun id id' b hm => absurd rfl hm, fun t ht => (by cases ht), fun t t' g x x' ht => (by cases ht), hJo.tb k F w hJ⟩ (fun id _ => ⟨rfl, rfl⟩) hr) rfl rfl hJ) ?_)
  rintro e a w' ⟨G', σ', k', h1, h2, h3, h4, h5, h6⟩
  cases e <;> first | exact h6.elim | (obtain ⟨v, hv, hr⟩ := res_all (P := P) h2 fn h6.1; exact ⟨h2.df, v, hv, v, G', _, k', rfl, hr, h1, h5, h6.2⟩)

/-- What an iterator is handed: yield. -/
def YlOk (P : Program) (J : JW) (l : Nat) (xs : List (List V)) : Prop :=
  ∀ n x F w argsC, xs[n]? = some x → J (some n) F w → RepL (gh F) argsC x → YieldAt (Fr none) 0 P l argsC.toArray w fun e w' => (e = .returned (.bool true) ∧ J (some (n + 1)) F w') ∨ (e = .returned (.bool false) ∧ J none F w')
/-- A helper of an iterator: it hands on n more. -/
def HpOk (P : Program) (J : JW) (f : FuncId) (args : List V) (k n : Nat) : Prop :=
  ∀ F w argsC, RepL (gh F) argsC args → J (some k) F w → CallsIn (Fr none) 0 P f argsC.toArray w fun e w' => ∃ F', (∀ b o v, F b o = some v → F' b o = some v) ∧ ((e = .returned (.bool true) ∧ J (some (k + n)) F' w') ∨ (e = .returned (.bool false) ∧ J none F' w'))
theorem hp_of_TJ (hJo : JOk J) {f : FuncId} {fn : Func} {c : Code} (hf : P.funcs[f]? = some fn) (hb : fn.body = some c) {args : List V} (hn : args.length ≤ fn.ntmps) {k n : Nat}
    (h : TJ P J fn.ntmps [] c (entry args noM noK) (some k) (finJ P fn fun k' x => (x = .bool true ∧ k' = some (k + n)) ∨ (x = .bool false ∧ k' = none))) : HpOk P J f args k n := fun F w argsC hr hJ => by
  refine (calls_of_TJ hJo hf hb hn h F w argsC hr hJ).mono ?_
  rintro e w' ⟨v, G', x, k', rfl, hrep, hF, hJ', (⟨rfl, rfl⟩ | ⟨rfl, rfl⟩)⟩
  · exact ⟨G'.fx, hF, .inl ⟨by cases hrep; rfl, hJ'⟩⟩
  · exact ⟨G'.fx, hF, .inr ⟨by cases hrep; rfl, hJ'⟩⟩
theorem iter_of_TJ {f : FuncId} {fn : Func} {c : Code} (hf : P.funcs[f]? = some fn) (hb : fn.body = some c) (hc : Callable P f) {caps : List V} {xs : List (List V)} (hn : caps.length + 1 ≤ fn.ntmps)
    (h : ∀ (J : JW) (l : Nat), JOk J → YlOk P J l xs → TJ P J fn.ntmps [] c (entry (.yl l :: caps) noM noK) (some 0) (finJ P fn fun k' _ => k' = some xs.length ∨ k' = none)) : IterOk P f caps xs := by
  refine ⟨hc, fun l J h1 h1t h2 h3 F w capsC hcaps hJ => ?_⟩
  have hJo : JOk J := ⟨h1, h1t, h2⟩
  have e : #[.func (.yield l) #[] #[]] ++ capsC.toArray = (Value.func (.yield l) #[] #[] :: capsC).toArray := by simp
  rw [e]
  refine (calls_of_TJ hJo hf hb (by simpa using hn) (h J l hJo h3) F w _ (RepL.cons (.yl l) hcaps) hJ).mono ?_
  rintro e w' ⟨v, G', x, k', rfl, hrep, hF, hJ', (rfl | rfl)⟩
  · exact ⟨⟨_, rfl⟩, G'.fx, .inl hJ'⟩
  · exact ⟨⟨_, rfl⟩, G'.fx, .inr hJ'⟩
theorem TJ.yield (hE : EnvOk P E) (hJo : JOk J) (fz : List Nat) {id : Nat} {ops : Array Oper} (pre post : List Oper) (o : Oper) (hops : ops = (pre ++ o :: post).toArray) (hd : noDefer ops = true) (hfz : ∀ t ∈ fz, t < N) {l : Nat} {xs : List (List V)} (hy : YlOk P J l xs) {n : Nat} {x : List V} (hx : xs[n]? = some x)
    (hpx : ∀ (G : Ghost) (cC : List Value), RepL G cC x → RepL (gh G.fx) cC x) {f : Operand} {args : Array Operand} {ts : Array TypeId} (ho : o.op = .call { callee := .value f, args := args, argTypes := ts })
    (h : goOps P E N p ops pre σ (fun σ1 => gd ops o (fin0 fz σ1).get = some true ∧ (fin0 fz σ1).ev f = .yl l ∧ args.toList.map (fin0 fz σ1).ev = x ∧
      ∀ b k', (b = true ∧ k' = some (n + 1)) ∨ (b = false ∧ k' = none) → goOps P E N p ops post ((fin0 fz σ1).put N o.dst (.bool b)) (fun σ3 => Q k' .normal (fin0 [] σ3)))) :
    TJ P J N p (.region id ops false) σ (some n) Q := by
  refine TJ.mid hE hJo fz pre post o hops hd hfz (goOps_mono _ _ _ (fun σ1 h1 => ?_) h)
  obtain ⟨h1, h2, h3, h4⟩ := h1
  refine ⟨h1, fun G a w hR hJ next hn => ?_⟩
  have hf : a.eval f = .func (.yield l) #[] #[] := by
    have := hR.eval f; rw [h2] at this; generalize a.eval f = z at this; cases this; rfl
  have hargs : RepL G (args.toList.map a.eval) x := by have := repL_eval hR args.toList; rwa [h3] at this
  obtain ⟨fn, tmps, assign, body, hr, hrd⟩ := hy n x G.fx w _ hx hJ (hpx G _ hargs)
  have hrun : (execOp a.eval o).run P w = .ok (.round l fn tmps assign body) w := by
    obtain ⟨dst, op, type, pos, after, guard⟩ := o
    simp only at ho; subst ho
    have e : (args.toList.map a.eval).toArray = args.map a.eval := by apply Array.ext'; simp
    rw [e] at hr
    show (do let d ← resolve a.eval ⟨.value f, args, ts⟩ type; invoke d.target d.args : Sem Next).run P w = _
    simp only [resolve, hf, Deferred.ofValue, Sem.run_bind, Sem.run_pure, Result.andThen_ok, invoke]
    simpa using hr
  rw [hrun]
  refine ⟨fun hd => by simp [Fr, Fence.wide] at hd, hrd.mono ?_⟩
  rintro e w' (⟨rfl, hJ'⟩ | ⟨rfl, hJ'⟩)
  · exact hn true _ _ w' (fun _ _ _ h => h) hJ' (h4 true _ (.inl ⟨rfl, rfl⟩))
  · exact hn false _ _ w' (fun _ _ _ h => h) hJ' (h4 false _ (.inr ⟨rfl, rfl⟩))
theorem TJ.help (hE : EnvOk P E) (hJo : JOk J) (fz : List Nat) {id : Nat} {ops : Array Oper} (pre post : List Oper) (o : Oper) (hops : ops = (pre ++ o :: post).toArray) (hd : noDefer ops = true) (hfz : ∀ t ∈ fz, t < N) {g : FuncId} {x : List V} {n m : Nat} (hg : Callable P g) (hy : HpOk P J g x n m)
    (hpx : ∀ (G : Ghost) (cC : List Value), RepL G cC x → RepL (gh G.fx) cC x) {f : Operand} {args : Array Operand} {ts : Array TypeId} (ho : o.op = .call { callee := .value f, args := args, argTypes := ts })
    (h : goOps P E N p ops pre σ (fun σ1 => gd ops o (fin0 fz σ1).get = some true ∧ (fin0 fz σ1).ev f = .fn g [] ∧ args.toList.map (fin0 fz σ1).ev = x ∧
      ∀ b k', (b = true ∧ k' = some (n + m)) ∨ (b = false ∧ k' = none) → goOps P E N p ops post ((fin0 fz σ1).put N o.dst (.bool b)) (fun σ3 => Q k' .normal (fin0 [] σ3)))) :
    TJ P J N p (.region id ops false) σ (some n) Q := by
  refine TJ.mid hE hJo fz pre post o hops hd hfz (goOps_mono _ _ _ (fun σ1 h1 => ?_) h)
  obtain ⟨h1, h2, h3, h4⟩ := h1
  refine ⟨h1, fun G a w hR hJ next hn => ?_⟩
  obtain ⟨argsC, hargs, hrun⟩ := run_call hR o f args ts ho h2 hg
  rw [h3, List.append_nil] at hargs
  rw [hrun]
  refine ⟨fun hd => by simp [Fr, Fence.wide] at hd, (hy G.fx w argsC (hpx G _ hargs) hJ).mono ?_⟩
  rintro e w' ⟨F', hF, (⟨rfl, hJ'⟩ | ⟨rfl, hJ'⟩)⟩
  · exact hn true _ _ w' hF hJ' (h4 true _ (.inl ⟨rfl, rfl⟩))
  · exact hn false _ _ w' hF hJ' (h4 false _ (.inr ⟨rfl, rfl⟩))
end

/-! ### Values of which only the cells that stay speak -/
def Plain (x : V) : Prop := ∀ G v, Rep G v x → Rep (gh G.fx) v x
theorem repL_plain {x : List V} (h : ∀ y ∈ x, Plain y) (G : Ghost) (c : List Value) (hr : RepL G c x) : RepL (gh G.fx) c x := ⟨hr.1, fun i v y hv hy => h y (List.mem_of_getElem? hy) G v (hr.2 i v y hv hy)⟩
theorem plain_int (k : IntKind) (n : Int) : Plain (.int k n) := fun G v h => by cases h; exact .int k n
theorem plain_yl (l : Nat) : Plain (.yl l) := fun G v h => by cases h; exact .yl l
theorem plain_agg {cs : List V} (h : ∀ y ∈ cs, Plain y) : Plain (.agg cs) := fun G v hr => by
  obtain ⟨arr, rfl, hl⟩ := rep_agg_inv hr
  exact rep_agg (repL_plain h G _ hl)
theorem plain_cptr {cs : List V} {off : Nat} (h : ∀ y ∈ cs, Plain y) : Plain (.cptr cs off) := fun G v hr => by
  cases hr with
  | cptr b o _ _ vs hfx hrep => exact .cptr b o cs off vs hfx fun j x hj => h x (List.mem_of_getElem? hj) G _ (hrep j x hj)
theorem plain_sl {els : List (List V)} (h : ∀ el ∈ els, ∀ y ∈ el, Plain y) : Plain (.sl els .no) := fun G v hr => by
  cases hr with
  | sl0 A c => exact .sl0 A c
  | sl b o c s _ _ vs hs hc hm hfx hrep hex htk => exact .sl b o c s els .no vs hs hc hm hfx (fun i j el x h1 h2 => h el (List.mem_of_getElem? h1) x (List.mem_of_getElem? h2) G _ (hrep i j el x h1 h2)) (by simp) (by simp)
theorem plain_encL : ∀ l : List Ex, Plain (.sl (encL l) .no)
  | [] => by rw [encL]; exact plain_sl (by simp)
  | .mk k i m :: l => by
    have h1 := plain_encL m
    refine plain_sl fun el hel y hy => ?_
    rw [encL_map] at hel
    obtain ⟨e, he, rfl⟩ := List.mem_map.1 hel
    rw [encC_eq] at hy
    simp only [List.mem_cons, List.not_mem_nil, or_false] at hy
    rcases hy with rfl | rfl | rfl
    · exact plain_int _ _
    · exact plain_int _ _
    · exact plain_encL e.kids
termination_by l => SizeOf.sizeOf l
decreasing_by
  all_goals simp_wf
  · omega
  · have h1 := List.sizeOf_lt_of_mem he
    cases e; simp at h1 ⊢; omega
theorem plain_encC (e : Ex) : ∀ y ∈ encC e, Plain y := fun y hy => by
  rw [encC_eq] at hy
  simp only [List.mem_cons, List.not_mem_nil, or_false] at hy
  rcases hy with rfl | rfl | rfl
  · exact plain_int _ _
  · exact plain_int _ _
  · exact plain_encL e.kids
theorem plain_enc (e : Ex) : Plain (enc e) := plain_agg (plain_encC e)
end
end Go.Proofs.YtaacfmakfkaddaaDoor.Ax
