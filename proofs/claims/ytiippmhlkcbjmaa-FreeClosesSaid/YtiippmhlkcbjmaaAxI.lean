/- Abstract execution, part I: calls; one step; regions, in whatever order they run. -/
import Derived.Test.YtiippmhlkcbjmaaAxH
set_option linter.unusedVariables false
set_option linter.unusedSimpArgs false
namespace Go.Proofs.Ytiippmhlkcbjmaa.Ax
open Go

section
variable {P : Program} {E : Env} {N : Nat} {p : Path} {ds : List Deferred} {G : Ghost} {σ : St} {a : Act} {w : World}

theorem put_M (σ : St) (N : Nat) (d : Option Nat) (v : V) : (σ.put N d v).M = σ.M := by
  unfold St.put; split <;> try rfl
  split <;> rfl
theorem put_K (σ : St) (N : Nat) (d : Option Nat) (v : V) : (σ.put N d v).K = σ.K := by
  unfold St.put; split <;> try rfl
  split <;> rfl
theorem put_cnt (σ : St) (N : Nat) (d : Option Nat) (v : V) : (σ.put N d v).cnt = σ.cnt := by
  unfold St.put; split <;> try rfl
  split <;> rfl

/-- What comes behind an operation: the state that it leads to. -/
def Then (N : Nat) (p : Path) (ds : List Deferred) (G : Ghost) (σ : St) (w : World) (st : St) (next : Act → World → Prop) : Prop :=
  ∀ G' a' w', Tr p G σ.M σ.K w G' st.M st.K w' → Rel N p ds G' st a' w' → next a' w'
theorem of_done {o : Oper} {c : Core} (hd : Done P N p ds G σ a w o c) {next : Act → World → Prop} {Q : Exit → Act → World → Prop}
    (hn : Then N p ds G σ w (({ σ with M := c.M, K := c.K, cnt := c.cnt } : St).put N o.dst c.v) next) : o.wp P a w next Q := by
  obtain ⟨v, w', G', he, hr, ht, hR⟩ := hd
  have := hn G' (a.put o.dst v) w' (by rw [put_M, put_K]; exact ht) (hR.put hr o.dst)
  rcases he with he | ⟨he, rfl⟩
  · simp only [Oper.wp, he, Oper.upon]; exact this
  · simp only [Oper.wp, he, Oper.upon]; exact this

theorem run_call (h : Rel N p ds G σ a w) (o : Oper) (f : Operand) (args : Array Operand) (ts : Array TypeId) (ho : o.op = .call { callee := .value f, args := args, argTypes := ts }) {g : FuncId} {caps : List V} (hf : σ.ev f = .fn g caps) (hg : Callable P g) :
    ∃ argsC, RepL G argsC (args.toList.map σ.ev ++ caps) ∧ (execOp a.eval o).run P w = .ok (.enter g argsC.toArray) w := by
  have hx := h.eval f
  rw [hf] at hx
  obtain ⟨arr, he, hl⟩ := rep_fn_inv hx
  refine ⟨args.toList.map a.eval ++ arr.toList, (repL_eval h _).append hl, ?_⟩
  obtain ⟨dst, op, type, pos, after, guard⟩ := o
  simp only at ho; subst ho
  have e : (args.toList.map a.eval ++ arr.toList).toArray = (#[] ++ args.map a.eval) ++ arr := by
    apply Array.ext'; simp
  rw [e]
  show (do let d ← resolve a.eval ⟨.value f, args, ts⟩ type; invoke d.target d.args : Sem Next).run P w = _
  simp only [resolve, he, Deferred.ofValue, Sem.run_bind, Sem.run_pure, Result.andThen_ok, invoke, run_callFunc hg]
theorem Sim.rename {M : Mem} {K K0 : Toks} {t id : Path} (h : Sim G M K w) (hk : K t = true) {x : Nat × Nat × Nat × Nat} (hx : G.tl t = some x) (hf : G.tl id = none) (hK : ∀ u, K0 u = true → K u = true ∧ u ≠ t) :
    Sim (G.addTok id x) M (upd K0 id true) w := by
  have hle := Ghost.addTok_le hf x
  have main : ∀ u y, upd K0 id true u = true → (G.addTok id x).tl u = some y → (u = id ∧ y = x) ∨ (u ≠ id ∧ u ≠ t ∧ K u = true ∧ G.tl u = some y) := fun u y hu hy => by
    by_cases e : u = id
    · subst e; simp [Ghost.addTok] at hy; exact .inl ⟨rfl, hy.symm⟩
    · rw [upd_ne _ _ e] at hu; simp [Ghost.addTok, e] at hy
      exact .inr ⟨e, (hK u hu).2, (hK u hu).1, hy⟩
  refine ⟨h.fx, fun q cs hm => ?_, h.mp, h.inj, fun u hu => ?_, fun u u' g y y' hu hu' h1 h2 => ?_⟩
  · obtain ⟨b, arr, T, hl, hh, hr, hff⟩ := h.box q cs hm
    exact ⟨b, arr, T, hl, hh, hr.mono hle, hff⟩
  · by_cases e : u = id
    · subst e
      obtain ⟨g, cap, s, n, arr, T, ht, hrest⟩ := h.tok t hk
      rw [hx] at ht; cases ht
      exact ⟨g, cap, s, n, arr, T, by simp [Ghost.addTok], hrest⟩
    · rw [upd_ne _ _ e] at hu
      obtain ⟨g, cap, s, n, arr, T, ht, hrest⟩ := h.tok u (hK u hu).1
      exact ⟨g, cap, s, n, arr, T, by simp [Ghost.addTok, e]; exact ht, hrest⟩
  · rcases main u _ hu h1 with ⟨e, ex⟩ | ⟨e, e2, hk1, ht1⟩ <;> rcases main u' _ hu' h2 with ⟨e', ex'⟩ | ⟨e', e2', hk2, ht2⟩
    · rw [e, e']
    · exact absurd (h.tinj u' t g y' y hk2 hk ht2 (by rw [hx, ex])) e2'
    · exact absurd (h.tinj u t g y y' hk1 hk ht1 (by rw [hx, ex'])) e2
    · exact h.tinj u u' g y y' hk1 hk2 ht1 ht2
theorem Tr.rename {M : Mem} {K K0 : Toks} {t id : Path} (w : World) (hk : K t = true) {x : Nat × Nat × Nat × Nat} (hx : G.tl t = some x) (hf : G.tl id = none) (hK : ∀ u, K0 u = true → K u = true ∧ u ≠ t) :
    Tr id G M K w (G.addTok id x) M (upd K0 id true) w := by
  refine ⟨Ghost.addTok_le hf x, fun q hq => ⟨rfl, by simp only [Ghost.addTok]; rw [if_neg (show ¬ q = id from fun e => hq (by rw [e]; exact List.suffix_refl _))]⟩, rfl, rfl, rfl, Nat.le_refl _, fun _ _ _ => rfl, fun b hb hw => ?_, fun _ _ _ _ => rfl⟩
  rcases hw with ⟨q, hm, hl⟩ | ⟨u, y, hu, hy⟩
  · exact .inl ⟨q, hm, hl⟩
  · by_cases e : u = id
    · subst e; simp [Ghost.addTok] at hy; exact .inr ⟨t, y, hk, by rw [hx, hy]⟩
    · rw [upd_ne _ _ e] at hu; simp [Ghost.addTok, e] at hy; exact .inr ⟨u, y, (hK u hu).1, hy⟩
theorem K_fresh {M : Mem} {K : Toks} (h : Sim G M K w) {t : Path} (hf : G.tl t = none) : K t = false := by
  cases hk : K t with
  | false => rfl
  | true => obtain ⟨g, cap, s, n, arr, T, ht, _⟩ := h.tok t hk; rw [hf] at ht; cases ht

theorem rep_retok {v : Value} {els : List (List V)} {t id : Path} {s : Nat} (h : Rep G v (.sl els (.own t s))) (he : G.tl id = G.tl t) : Rep G v (.sl els (.own id s)) := by
  cases h with
  | sl b o c s' _ _ vs hs hc hm hfx hrep hex htk =>
    exact .sl b o c s' els _ vs hs hc hm hfx hrep (by simp) (fun q s1 e => by
      cases e
      have h1 := htk t s rfl
      exact ⟨h1.1, h1.2.1, by rw [he]; exact h1.2.2⟩)
theorem call_sound (hE : EnvOk P E) (h : Rel N p ds G σ a w) (o : Oper) (f : Operand) (args : Array Operand) (ts : Array TypeId) (ho : o.op = .call { callee := .value f, args := args, argTypes := ts }) {g : FuncId} {caps : List V} (hf : σ.ev f = .fn g caps)
    (hp : (coreCall E p g (args.toList.map σ.ev ++ caps) o.dst σ.M σ.K σ.cnt).pre) {next : Act → World → Prop} {Q : Exit → Act → World → Prop}
    (hn : Then N p ds G σ w (({ σ with M := (coreCall E p g (args.toList.map σ.ev ++ caps) o.dst σ.M σ.K σ.cnt).M, K := (coreCall E p g (args.toList.map σ.ev ++ caps) o.dst σ.M σ.K σ.cnt).K, cnt := (coreCall E p g (args.toList.map σ.ev ++ caps) o.dst σ.M σ.K σ.cnt).cnt } : St).put N o.dst (coreCall E p g (args.toList.map σ.ev ++ caps) o.dst σ.M σ.K σ.cnt).v) next) :
    o.wp P a w next Q := by
  have go : Callable P g → (∀ argsC, RepL G argsC (args.toList.map σ.ev ++ caps) → Calls P g argsC.toArray w fun e w' => match e with | .returned v => next (a.put o.dst v) w' | .panicked chain => Q (.panic chain) a w' | .outgrown => LetsOut Q) → o.wp P a w next Q := fun hc hk => by
    obtain ⟨argsC, hl, hr⟩ := run_call h o f args ts ho hf hc
    simp only [Oper.wp, hr, Oper.upon]
    exact (hk argsC hl).mono fun e w' he => by cases e <;> exact he
  unfold coreCall at hp hn
  split at hp
  · rename_i how
    simp only [if_pos how] at hn
    split at hp
    · rename_i s els hpo
      simp only [hpo] at hn
      obtain ⟨hcal, hctr⟩ := hE.po g _ s els how hpo
      refine go hcal fun argsC hl => ?_
      obtain ⟨b, hb⟩ := h.hid
      refine (hctr (b :: 0 :: p) σ.M σ.K G w argsC h.sim (fun id hid => hb b id (Nat.le_refl _) hid) (repL_erase hl)).mono ?_
      rintro e w' ⟨G', M', K', v, x, rfl, hrep, hsim, htr, rfl, t, rfl, hqt, rfl⟩
      obtain ⟨g0, c0, rfl, hc0, hm0, htl⟩ := rep_own hrep
      have htf := (hb b t (Nat.le_refl _) hqt)
      have hKt : σ.K t = false := K_fresh h.sim htf.2
      have hR1 := h.nexth hb htr hsim
      have hfr := hR1.fresh o.dst (nid σ.cnt p o.dst) (List.suffix_refl _)
      have hKK : ∀ u, σ.K u = true → upd σ.K t true u = true ∧ u ≠ t := fun u hu => by
        have hne : u ≠ t := fun e => by subst e; rw [hKt] at hu; cases hu
        exact ⟨by rw [upd_ne _ _ hne]; exact hu, hne⟩
      have hs2 := hsim.rename (K0 := σ.K) (upd_same _ _ _) htl hfr.2 hKK
      have ht2 := Tr.rename (G := G') (M := σ.M) (K := upd σ.K t true) (K0 := σ.K) w' (upd_same _ _ _) htl hfr.2 hKK
      have hR2 := hR1.next o.dst ht2 hs2
      have hrep2 : Rep (G'.addTok (nid σ.cnt p o.dst) (g0, c0, s, els.length)) (.slice (some ⟨g0, 0, none⟩) els.length c0) (.sl els (.own (nid σ.cnt p o.dst) s)) := by
        exact rep_retok (hrep.mono ht2.le) (by simp [Ghost.addTok, htl])
      refine hn _ _ w' ?_ (hR2.put hrep2 o.dst)
      rw [put_M, put_K]
      exact (htr.mono (Rel.hid_suffix b p)).trans (ht2.mono (Rel.pre_suffix _ _ _))
    · exact hp.elim
  · rename_i how
    simp only [if_neg how] at hn
    have how' : E.own g = false := by simpa using how
    split at hp
    · rename_i hmem
      simp only [if_pos hmem] at hn
      split at hp
      · rename_i x M' K' hmf
        simp only [hmf] at hn
        obtain ⟨hcal, _, hctr⟩ := hE.mf g _ _ _ _ x M' K' how' hmem hmf
        refine go hcal fun argsC hl => ?_
        refine (hctr G w argsC h.sim (h.fresh o.dst) (repL_erase hl)).mono ?_
        rintro e w' ⟨G', M1, K1, v, y, rfl, hrep, hsim, htr, rfl, rfl, rfl⟩
        refine hn G' _ w' ?_ ((h.next o.dst htr hsim).put hrep o.dst)
        rw [put_M, put_K]
        exact htr.mono (Rel.pre_suffix _ _ _)
      · exact hp.elim
    · rename_i hmem
      simp only [if_neg hmem] at hn
      have hmem' : E.mem g = false := by simpa using hmem
      split at hp
      · rename_i r hpf
        simp only [hpf] at hn
        obtain ⟨hcal, hctr⟩ := hE.pf g _ r how' hmem' hpf
        refine go hcal fun argsC hl => ?_
        obtain ⟨b, hb⟩ := h.hid
        refine (hctr (b :: 0 :: p) σ.M σ.K G w argsC h.sim (fun id hid => hb b id (Nat.le_refl _) hid) (repL_erase hl)).mono ?_
        rintro e w' ⟨G', M', K', v, x, rfl, hrep, hsim, htr, rfl, rfl, rfl⟩
        refine hn G' _ w' ?_ ((h.nexth hb htr hsim).put hrep o.dst)
        rw [put_M, put_K]
        exact htr.mono (Rel.hid_suffix b p)
      · exact hp.elim

theorem step_sound (hE : EnvOk P E) (h : Rel N p ds G σ a w) (o : Oper) (hp : (opStep P E N p o σ).pre) {next : Act → World → Prop} {Q : Exit → Act → World → Prop}
    (hn : Then N p ds G σ w (opStep P E N p o σ).st next) : o.wp P a w next Q := by
  unfold opStep at hp hn
  simp only at hp hn
  cases ho : o.op with
  | alloc t => exact of_done (done_alloc h o t ho hp) hn
  | box t x => exact of_done (done_boxOp h o t x ho hp) hn
  | buildSlice t len ps => exact of_done (done_lit h o t len ps ho hp) hn
  | store t x y => exact of_done (done_store h o t x y ho hp) hn
  | makeSlice t x y => exact of_done (done_make h o t x y ho hp) hn
  | call c =>
    obtain ⟨callee, args, ts⟩ := c
    cases callee with
    | value f =>
      rw [ho] at hp hn
      simp only [opCore] at hp hn
      cases hf : σ.ev f <;> rw [hf] at hp hn <;> try exact hp.elim
      exact call_sound hE h o f args ts ho hf hp hn
    | invoke r m => rw [ho] at hp; exact hp.elim
    | builtin b =>
      by_cases hb : b = .append
      · subst hb
        rw [ho] at hp hn
        simp only [opCore] at hp hn
        split at hp
        · rename_i s x hargs
          simp only [hargs] at hn
          have hargs' : args = #[s, x] := Array.ext' (by simpa using hargs)
          subst hargs'
          exact of_done (done_append h o ts s x ho hp) hn
        · exact hp.elim
      · have hc : opCore P E p σ.ev σ.M σ.K σ.cnt o.dst o.op = coreR (rop P E σ.ev σ.M o.op) σ.M σ.K σ.cnt := by
          rw [ho]; cases b <;> first | exact absurd rfl hb | rfl
        rw [hc] at hp hn
        exact of_done (done_reg hE h o hp) hn
  | _ =>
    have hc : opCore P E p σ.ev σ.M σ.K σ.cnt o.dst o.op = coreR (rop P E σ.ev σ.M o.op) σ.M σ.K σ.cnt := by rw [ho]; rfl
    rw [hc] at hp hn
    exact of_done (done_reg hE h o hp) hn

/-! ### Guards -/
def gd (ops : Array Oper) (o : Oper) (get : Nat → V) : Option Bool := match o.guard with
  | none => some true
  | some (j, want) => match (ops[j]?).bind (·.dst) with
    | none => some false
    | some d => match get d with
      | .bool b => some (b == want)
      | .tup [] => some false
      | _ => none
def evG (get : Nat → V) : Operand → V
  | .tmp t => get t
  | .const c => ofVal c
  | .global _ => .junk
  | .func f => .fn f []
theorem ev_eq (σ : St) : σ.ev = evG σ.get := by funext x; cases x <;> rfl
def gCore (P : Program) (E : Env) (p : Path) (ops : Array Oper) (o : Oper) (get : Nat → V) (M : Mem) (K : Toks) (cnt : Nat → Nat) : Core := match gd ops o get with
  | some true => opCore P E p (evG get) M K cnt o.dst o.op
  | some false => ⟨True, .tup [], M, K, cnt⟩
  | none => coreBad M K cnt
def coreSt (N : Nat) (d : Option Nat) (get : Nat → V) (c : Core) : St := ({ get := get, M := c.M, K := c.K, cnt := c.cnt } : St).put N d c.v
def gStep (P : Program) (E : Env) (N : Nat) (p : Path) (ops : Array Oper) (o : Oper) (σ : St) : Out :=
  let c := gCore P E p ops o σ.get σ.M σ.K σ.cnt
  ⟨c.pre, coreSt N o.dst σ.get c⟩
theorem wanted_eq (h : Rel N p ds G σ a w) (ops : Array Oper) (o : Oper) {c : Bool} (hg : gd ops o σ.get = some c) : Region.wanted o (yielded ops a.tmps) = c := by
  unfold gd at hg
  unfold Region.wanted
  split at hg
  · rename_i e; simp only [e]; cases hg; rfl
  · rename_i j want e
    simp only [e, yielded]
    split at hg
    · rename_i hd; cases hg; simp [hd]
    · rename_i d hd
      rw [hd, Option.bind_some]
      have hv : ∀ v, a.tmps[d]? = some v → Rep G v (σ.get d) := h.tm d
      split at hg
      · rename_i b hb
        cases hg
        by_cases hN : d < a.tmps.size
        · have h1 := hv a.tmps[d] (by simp [hN])
          rw [hb] at h1
          have h2 : a.tmps[d] = .bool b := by generalize a.tmps[d] = z at h1; cases h1; rfl
          rw [show a.tmps[d]? = some (.bool b) by rw [← h2]; simp [hN]]
          simp
        · have := h.rng d (by rw [← h.n]; exact Nat.le_of_not_lt hN); rw [hb] at this; cases this
      · rename_i hb
        cases hg
        by_cases hN : d < a.tmps.size
        · have h1 := hv a.tmps[d] (by simp [hN])
          rw [hb] at h1
          obtain ⟨arr, h2, _⟩ := rep_tup_inv h1
          rw [show a.tmps[d]? = some (.tuple arr) by rw [← h2]; simp [hN]]
          rfl
        · rw [Array.getElem?_eq_none (Nat.le_of_not_lt hN)]; rfl
      · cases hg
theorem gstep_sound (hE : EnvOk P E) (h : Rel N p ds G σ a w) (ops : Array Oper) (i : Nat) (o : Oper) (ho : ops[i]? = some o) (hp : (gStep P E N p ops o σ).pre) {next : Act → World → Prop} {Q : Exit → Act → World → Prop}
    (hn : Then N p ds G σ w (gStep P E N p ops o σ).st next) : wpOp P ops Q i next a w := by
  unfold gStep gCore at hp hn
  simp only at hp hn
  unfold wpOp
  simp only [ho]
  cases hg : gd ops o σ.get with
  | none => rw [hg] at hp; exact hp.elim
  | some c =>
    rw [wanted_eq h ops o hg]
    rw [hg] at hp hn
    cases c with
    | true =>
      simp only [if_true]
      refine .inl (step_sound hE h o (by unfold opStep; rw [ev_eq]; exact hp) ?_)
      unfold opStep; rw [ev_eq]; exact hn
    | false =>
      simp only [Bool.false_eq_true, if_false]
      refine hn G (a.put o.dst undef) w ?_ (h.put (rep_tup (.nil G)) o.dst)
      simp only [coreSt, put_M, put_K]
      exact .refl _ _ _ _ _
def runOps (P : Program) (E : Env) (N : Nat) (p : Path) (ops : Array Oper) : List Oper → St → (St → Prop) → Prop
  | [], σ, K => K σ
  | o :: os, σ, K => (gStep P E N p ops o σ).pre ∧ runOps P E N p ops os (gStep P E N p ops o σ).st K
theorem runOps_wp (hE : EnvOk P E) (ops : Array Oper) {Kf : St → Prop} {Q : Exit → Act → World → Prop} : ∀ (l : List Nat) (os : List Oper) (G : Ghost) (σ : St) (a : Act) (w : World), l.map (fun i => ops[i]?) = os.map some → Rel N p ds G σ a w → runOps P E N p ops os σ Kf →
    (∀ G' σ' a' w', Tr p G σ.M σ.K w G' σ'.M σ'.K w' → Rel N p ds G' σ' a' w' → Kf σ' → Q .normal a' w') → wpOps P ops Q l a w
  | [], os, G, σ, a, w, hl, hR, hr, hK => by
    cases os with
    | nil => exact hK G σ a w (.refl _ _ _ _ _) hR hr
    | cons o os => simp at hl
  | i :: l, os, G, σ, a, w, hl, hR, hr, hK => by
    cases os with
    | nil => simp at hl
    | cons o os =>
      simp only [List.map_cons, List.cons.injEq] at hl
      obtain ⟨h1, h2⟩ := hr
      rw [wpOps_cons]
      refine gstep_sound hE hR ops i o hl.1 h1 fun G' a' w' ht hR' => ?_
      exact runOps_wp hE ops l os G' _ a' w' hl.2 hR' h2 fun G2 σ2 a2 w2 ht2 => hK G2 σ2 a2 w2 (ht.trans ht2)

end
end Go.Proofs.Ytiippmhlkcbjmaa.Ax
